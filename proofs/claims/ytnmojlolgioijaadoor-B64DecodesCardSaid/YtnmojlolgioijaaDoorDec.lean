/- base64 read as a plain function: blanks out, four letters a group; what Decode tells is just that; what is read of a text's letters is the text, and letters that are read are its own. -/
import Derived.Test.YtnmojlolgioijaaDoorEnc
import Derived.Test.YtnmojlolgioijaaDoorPx2
set_option linter.unusedVariables false
set_option linter.unusedSimpArgs false
namespace Go.Proofs.YtnmojlolgioijaaDoor.B64
open Go.RowKit Go.Proofs.YtnmojlolgioijaaDoor.P Go.Proofs.YtnmojlolgioijaaDoorW.PrintWords Go.Proofs.YtnmojlolgioijaaDoorW.PrintLast Go.Proofs.YtnmojlolgioijaaDoorW.PrintMore Go.Proofs.YtnmojlolgioijaaDoor.Aids

def val (c : Int) : Int := if 65 ≤ c ∧ c ≤ 90 then c - 65 else if 97 ≤ c ∧ c ≤ 122 then c - 71 else if 48 ≤ c ∧ c ≤ 57 then c + 4 else if c = 43 then 62 else if c = 47 then 63 else -1
theorem val_all : ∀ n : Nat, n < 256 → b64_value.f 5 (n : Int) = some (val (n : Int)) ∧ -1 ≤ val (n : Int) ∧ val (n : Int) < 64 ∧ (0 ≤ val (n : Int) → L (val (n : Int)) = (n : Int)) := by decide +kernel
theorem val_L_all : ∀ n : Nat, n < 64 → val (L (n : Int)) = (n : Int) := by decide +kernel
theorem val_L (n : Int) (h0 : 0 ≤ n) (h1 : n < 64) : val (L n) = n := by
  obtain ⟨m, rfl⟩ := Int.eq_ofNat_of_zero_le h0
  exact val_L_all m (by omega)
theorem val_r (c : Int) (h : 0 ≤ c ∧ c ≤ 255) : -1 ≤ val c ∧ val c < 64 ∧ (0 ≤ val c → L (val c) = c) := by
  obtain ⟨m, rfl⟩ := Int.eq_ofNat_of_zero_le h.1
  exact (val_all m (by omega)).2
theorem val_eq (c : Int) (h : 0 ≤ c ∧ c ≤ 255) : Ev (fun k => b64_value.f k c) (val c) := by
  obtain ⟨m, rfl⟩ := Int.eq_ofNat_of_zero_le h.1
  exact evk (b64_value.mono _) 5 (val_all m (by omega)).1
def gap (c : Int) : Bool := c == 32 || c == 9 || c == 13 || c == 10
def bare (l : List Int) : List Int := l.filter fun c => !gap c
theorem bare_byte {l : List Int} (h : byte l) : byte (bare l) := fun c hc => h c (List.mem_filter.1 hc).1
theorem bare_len (l : List Int) : (bare l).length ≤ l.length := List.length_filter_le _ _
theorem bare_append (l m : List Int) : bare (l ++ m) = bare l ++ bare m := List.filter_append ..
theorem bare_no {l : List Int} (h : ∀ c ∈ l, 43 ≤ c) : bare l = l := by
  refine List.filter_eq_self.2 fun c hc => ?_
  have := h c hc
  unfold gap
  simp; omega
theorem bare_l0 (x : List Int) (hl : x.length ≤ 100000) (d : Nat) : ∀ (i : Nat) (acc : List Int), x.length - i ≤ d → i ≤ x.length → acc.length ≤ i →
    Ev (fun k => b64_Bare.l0 k acc x (x.length : Int) (i : Int)) (acc ++ bare (x.drop i)) := by
  induction d with
  | zero =>
    intro i acc hd hi ha
    refine st (fun k => by rw [b64_Bare.l0]) ?_
    exact no (by omega) (fin (by rw [List.drop_eq_nil_of_le (by omega)]; simp [bare]))
  | succ d ih =>
    intro i acc hd hi ha
    refine st (fun k => by rw [b64_Bare.l0]) ?_
    by_cases hlt : i < x.length
    · have e1 : wrap64 ((i : Int) + 1) = ((i + 1 : Nat) : Int) := by rw [w64 (by omega) (by omega)]; omega
      rw [drop_rd x i hlt]
      simp only [e1]
      refine yes (by omega) (yes (by omega) (yes (by omega) ?_))
      generalize rd x (i : Int) = c at *
      have h1 : gap c = true → Ev (fun k => b64_Bare.l0 k acc x (x.length : Int) ((i + 1 : Nat) : Int)) (acc ++ bare (c :: x.drop (i + 1))) := by
        intro hg
        refine toE (ih (i + 1) acc (by omega) (by omega) (by omega)) ?_
        unfold bare; rw [List.filter_cons, if_neg (by rw [hg]; decide)]
      by_cases a1 : c = 32
      · exact yes a1 (h1 (by rw [a1]; rfl))
      refine no a1 ?_
      by_cases a2 : c = 9
      · exact yes a2 (h1 (by rw [a2]; rfl))
      refine no a2 ?_
      by_cases a3 : c = 13
      · exact yes a3 (h1 (by rw [a3]; rfl))
      refine no a3 ?_
      by_cases a4 : c = 10
      · exact yes a4 (h1 (by rw [a4]; rfl))
      refine no a4 (yes (by omega) ?_)
      refine toE (ih (i + 1) (acc ++ [c]) (by omega) (by omega) (by simp; omega)) ?_
      unfold bare
      rw [List.filter_cons, if_pos (by unfold gap; simp; omega), List.append_assoc]; rfl
    · exact no (by omega) (fin (by rw [List.drop_eq_nil_of_le (by omega)]; simp [bare]))
theorem bare_eq (x : List Int) (hl : x.length ≤ 100000) : Ev (fun k => b64_Bare.f k x) (bare x) := by
  have := bare_l0 x hl x.length 0 [] (by omega) (by omega) (by simp)
  exact this
/-- four letters' bytes -/
def dg (last : Bool) (a b c d : Int) : Option (List Int) :=
  if last = true ∧ d = 61 then
    (if c = 61 then (if val a < 0 then none else if val b < 0 then none else if val b % 16 = 0 then some [val a * 4 + val b / 16] else none)
      else (if val a < 0 then none else if val b < 0 then none else if val c < 0 then none else if val c % 4 = 0 then some [val a * 4 + val b / 16, val b % 16 * 16 + val c / 4] else none))
    else (if val a < 0 then none else if val b < 0 then none else if val c < 0 then none else if val d < 0 then none else some [val a * 4 + val b / 16, val b % 16 * 16 + val c / 4, val c % 4 * 64 + val d])
def told : Option (List Int) → List Int × Bool
  | none => ([], false)
  | some o => (o, true)
theorem or_six (x v : Int) (h0 : 0 ≤ x) (h1 : x < 16777216) (hv : 0 ≤ v ∧ v < 64) : Go.bits .or .i64 (wrap64 (x * 64)) v = x * 64 + v := by
  rw [w64 (by omega) (by omega)]
  exact bits_join .i64 63 (by decide) wraps 6 (x * 64) v (by omega) (by omega) (by omega) hv.1 (by omega) (by omega)
section
variable {g : List Int} {n x : Int} {r : List Int × Bool} {i : Nat}
theorem l1_ge (h : (i : Int) ≥ n) (h4 : i < 4) (h0 : 0 ≤ x) (h1 : x < 16777216) (hr : Ev (fun k => b64_decode.l1 k g n (x * 64) ((i + 1 : Nat) : Int)) r) : Ev (fun k => b64_decode.l1 k g n x (i : Int)) r := by
  refine st (fun k => by rw [b64_decode.l1]) ?_
  rw [show wrap64 ((i : Int) + 1) = ((i + 1 : Nat) : Int) by rw [w64 (by omega) (by omega)]; omega, w64 (x := x * 64) (by omega) (by omega)]
  exact yes (by omega) (yes h hr)
theorem l1_lt {c : Int} (hc : rd g (i : Int) = c) (hl : g.length = 4) (h : (i : Int) < n) (h4 : i < 4) (h0 : 0 ≤ x) (h1 : x < 16777216) (hb : 0 ≤ c ∧ c ≤ 255) (hv : 0 ≤ val c) (hr : Ev (fun k => b64_decode.l1 k g n (x * 64 + val c) ((i + 1 : Nat) : Int)) r) : Ev (fun k => b64_decode.l1 k g n x (i : Int)) r := by
  refine st (fun k => by rw [b64_decode.l1]) ?_
  rw [show wrap64 ((i : Int) + 1) = ((i + 1 : Nat) : Int) by rw [w64 (by omega) (by omega)]; omega, hc]
  refine yes (by omega) (no (by omega) (yes (by omega) (yes (by omega) (bnd (val_eq c hb) (no (by omega) ?_)))))
  rw [or_six x (val c) h0 h1 ⟨hv, (val_r c hb).2.1⟩]
  exact hr
theorem l1_bad {c : Int} (hc : rd g (i : Int) = c) (hl : g.length = 4) (h : (i : Int) < n) (h4 : i < 4) (hb : 0 ≤ c ∧ c ≤ 255) (hv : val c < 0) : Ev (fun k => b64_decode.l1 k g n x (i : Int)) ([], false) := by
  refine st (fun k => by rw [b64_decode.l1]) ?_
  rw [hc]
  exact yes (by omega) (no (by omega) (yes (by omega) (yes (by omega) (bnd (val_eq c hb) (yes hv (fin rfl))))))
end
theorem and_mod (x : Int) (i : Nat) (hi : i ≤ 63) (h0 : 0 ≤ x) (h1 : x < 16777216) : Go.bits .and .i64 x (2 ^ i - 1) = x % 2 ^ i :=
  bits_mask .i64 63 (by decide) wraps i hi x h0 (by omega)
theorem l1_end (g : List Int) (x : Int) (n : Nat) (hn : n = 2 ∨ n = 3 ∨ n = 4) (h0 : 0 ≤ x) (h1 : x < 16777216) : Ev (fun k => b64_decode.l1 k g (n : Int) x 4) (if x % 2 ^ (8 * (4 - n)) = 0 then ([x / 65536 % 256, x / 256 % 256, x % 256].take (n - 1), true) else ([], false)) := by
  refine st (fun k => by rw [b64_decode.l1]) ?_
  refine no (by decide) (bs ?_)
  rcases hn with rfl | rfl | rfl
  · have e1 : wrap64 (8 * wrap64 (4 - ((2 : Nat) : Int))) = 16 := by decide +kernel
    have e2 : wrap64 (shl .i64 1 16 - 1) = 2 ^ 16 - 1 := by decide +kernel
    have e3 : wrap64 (((2 : Nat) : Int) - 1) = 1 := by decide +kernel
    rw [e1, e2, and_mod x 16 (by decide) h0 h1, e3]
    refine yes (by decide) ?_
    by_cases h : x % 2 ^ 16 = 0
    · exact yes h (yes (by decide) (yes (by simp) (fin (by rw [if_pos h]; rfl))))
    · exact no h (fin (by rw [if_neg h]))
  · have e1 : wrap64 (8 * wrap64 (4 - ((3 : Nat) : Int))) = 8 := by decide +kernel
    have e2 : wrap64 (shl .i64 1 8 - 1) = 2 ^ 8 - 1 := by decide +kernel
    have e3 : wrap64 (((3 : Nat) : Int) - 1) = 2 := by decide +kernel
    rw [e1, e2, and_mod x 8 (by decide) h0 h1, e3]
    refine yes (by decide) ?_
    by_cases h : x % 2 ^ 8 = 0
    · exact yes h (yes (by decide) (yes (by simp) (fin (by rw [if_pos h]; rfl))))
    · exact no h (fin (by rw [if_neg h]))
  · have e1 : wrap64 (8 * wrap64 (4 - ((4 : Nat) : Int))) = 0 := by decide +kernel
    have e2 : wrap64 (shl .i64 1 0 - 1) = 2 ^ 0 - 1 := by decide +kernel
    have e3 : wrap64 (((4 : Nat) : Int) - 1) = 3 := by decide +kernel
    rw [e1, e2, and_mod x 0 (by decide) h0 h1, e3]
    refine yes (by decide) ?_
    exact yes (by omega) (yes (by decide) (yes (by simp) (fin (by rw [if_pos (by omega)]; rfl))))
theorem dg_eq (last : Bool) (a b c d : Int) (ha : 0 ≤ a ∧ a ≤ 255) (hb : 0 ≤ b ∧ b ≤ 255) (hc : 0 ≤ c ∧ c ≤ 255) (hd : 0 ≤ d ∧ d ≤ 255) : Ev (fun k => b64_decode.f k [a, b, c, d] last) (told (dg last a b c d)) := by
  have va := val_r a ha
  have vb := val_r b hb
  have vc := val_r c hc
  have vd := val_r d hd
  have r0 : rd [a, b, c, d] ((0 : Nat) : Int) = a := rfl
  have r1 : rd [a, b, c, d] ((1 : Nat) : Int) = b := rfl
  have r2 : rd [a, b, c, d] ((2 : Nat) : Int) = c := rfl
  have r3 : rd [a, b, c, d] ((3 : Nat) : Int) = d := rfl
  have w3 : wrap64 (4 - 1) = ((3 : Nat) : Int) := by decide +kernel
  have w2 : wrap64 (((3 : Nat) : Int) - 1) = ((2 : Nat) : Int) := by decide +kernel
  have four : ∀ R, R = told (if val a < 0 then none else if val b < 0 then none else if val c < 0 then none else if val d < 0 then none else some [val a * 4 + val b / 16, val b % 16 * 16 + val c / 4, val c % 4 * 64 + val d]) → Ev (fun k => b64_decode.j1 k [a, b, c, d] 4) R := by
    intro R hR
    refine st (fun k => by rw [b64_decode.j1]) ?_
    subst hR
    by_cases h1 : val a < 0
    · rw [if_pos h1]; exact l1_bad (i := 0) r0 rfl (by decide) (by decide) ha h1
    rw [if_neg h1]
    refine l1_lt (i := 0) r0 rfl (by decide) (by decide) (by decide) (by decide) ha (by omega) ?_
    by_cases h2 : val b < 0
    · rw [if_pos h2]; exact l1_bad r1 rfl (by decide) (by decide) hb h2
    rw [if_neg h2]
    refine l1_lt r1 rfl (by decide) (by decide) (by omega) (by omega) hb (by omega) ?_
    by_cases h3 : val c < 0
    · rw [if_pos h3]; exact l1_bad r2 rfl (by decide) (by decide) hc h3
    rw [if_neg h3]
    refine l1_lt r2 rfl (by decide) (by decide) (by omega) (by omega) hc (by omega) ?_
    by_cases h4 : val d < 0
    · rw [if_pos h4]; exact l1_bad r3 rfl (by decide) (by decide) hd h4
    rw [if_neg h4]
    refine l1_lt r3 rfl (by decide) (by decide) (by omega) (by omega) hd (by omega) ?_
    refine toE (l1_end _ _ 4 (by decide) (by omega) (by omega)) ?_
    rw [if_pos (by omega)]
    show ([_, _, _], true) = ([_, _, _], true)
    rw [show (((0 * 64 + val a) * 64 + val b) * 64 + val c) * 64 + val d = ((val a * 64 + val b) * 64 + val c) * 64 + val d by omega]
    rw [show (((val a * 64 + val b) * 64 + val c) * 64 + val d) / 65536 % 256 = val a * 4 + val b / 16 by omega, show (((val a * 64 + val b) * 64 + val c) * 64 + val d) / 256 % 256 = val b % 16 * 16 + val c / 4 by omega, show (((val a * 64 + val b) * 64 + val c) * 64 + val d) % 256 = val c % 4 * 64 + val d by omega]
  show Ev (fun k => b64_decode.l0 k [a, b, c, d] last 4) _
  refine st (fun k => by rw [b64_decode.l0]) ?_
  unfold dg
  by_cases hl : last = true
  · refine yes hl (yes (by decide) ?_)
    rw [w3, r3]
    refine yes (by decide) (yes (by simp) ?_)
    by_cases h61 : d = 61
    · refine yes h61 ?_
      rw [if_pos ⟨hl, h61⟩]
      refine st (fun k => by rw [b64_decode.l0]) ?_
      refine yes hl (yes (by decide) ?_)
      rw [w2, r2]
      refine yes (by decide) (yes (by simp) ?_)
      by_cases c61 : c = 61
      · refine yes c61 ?_
        rw [if_pos c61]
        refine st (fun k => by rw [b64_decode.l0]) ?_
        refine yes hl (no (by decide) ?_)
        refine st (fun k => by rw [b64_decode.j1]) ?_
        by_cases h1 : val a < 0
        · rw [if_pos h1]; exact l1_bad (i := 0) r0 rfl (by decide) (by decide) ha h1
        rw [if_neg h1]
        refine l1_lt (i := 0) r0 rfl (by decide) (by decide) (by decide) (by decide) ha (by omega) ?_
        by_cases h2 : val b < 0
        · rw [if_pos h2]; exact l1_bad r1 rfl (by decide) (by decide) hb h2
        rw [if_neg h2]
        refine l1_lt r1 rfl (by decide) (by decide) (by omega) (by omega) hb (by omega) ?_
        refine l1_ge (by decide) (by decide) (by omega) (by omega) (l1_ge (by decide) (by decide) (by omega) (by omega) ?_)
        refine toE (l1_end _ _ 2 (by decide) (by omega) (by omega)) ?_
        rw [show ((0 * 64 + val a) * 64 + val b) * 64 * 64 = (val a * 64 + val b) * 4096 by omega]
        by_cases hz : val b % 16 = 0
        · rw [if_pos hz, if_pos (by omega)]
          show ([_], true) = ([_], true)
          rw [show (val a * 64 + val b) * 4096 / 65536 % 256 = val a * 4 + val b / 16 by omega]
        · rw [if_neg hz, if_neg (by omega)]; rfl
      · refine no c61 ?_
        rw [if_neg c61]
        refine st (fun k => by rw [b64_decode.j1]) ?_
        by_cases h1 : val a < 0
        · rw [if_pos h1]; exact l1_bad (i := 0) r0 rfl (by decide) (by decide) ha h1
        rw [if_neg h1]
        refine l1_lt (i := 0) r0 rfl (by decide) (by decide) (by decide) (by decide) ha (by omega) ?_
        by_cases h2 : val b < 0
        · rw [if_pos h2]; exact l1_bad r1 rfl (by decide) (by decide) hb h2
        rw [if_neg h2]
        refine l1_lt r1 rfl (by decide) (by decide) (by omega) (by omega) hb (by omega) ?_
        by_cases h3 : val c < 0
        · rw [if_pos h3]; exact l1_bad r2 rfl (by decide) (by decide) hc h3
        rw [if_neg h3]
        refine l1_lt r2 rfl (by decide) (by decide) (by omega) (by omega) hc (by omega) ?_
        refine l1_ge (by decide) (by decide) (by omega) (by omega) ?_
        refine toE (l1_end _ _ 3 (by decide) (by omega) (by omega)) ?_
        rw [show (((0 * 64 + val a) * 64 + val b) * 64 + val c) * 64 = ((val a * 64 + val b) * 64 + val c) * 64 by omega]
        by_cases hz : val c % 4 = 0
        · rw [if_pos hz, if_pos (by omega)]
          show ([_, _], true) = ([_, _], true)
          rw [show ((val a * 64 + val b) * 64 + val c) * 64 / 65536 % 256 = val a * 4 + val b / 16 by omega, show ((val a * 64 + val b) * 64 + val c) * 64 / 256 % 256 = val b % 16 * 16 + val c / 4 by omega]
        · rw [if_neg hz, if_neg (by omega)]; rfl
    · refine no h61 ?_
      rw [if_neg (fun h => h61 h.2)]
      exact four _ rfl
  · refine no hl ?_
    rw [if_neg (fun h => hl h.1)]
    exact four _ rfl
/-- all groups -/
def D : List Int → Option (List Int)
  | [] => some []
  | a :: b :: c :: d :: t => (dg t.isEmpty a b c d).bind fun o => (D t).map (o ++ ·)
  | _ => none
theorem dg_len {last : Bool} {a b c d : Int} {o : List Int} (h : dg last a b c d = some o) : o.length ≤ 3 := by
  unfold dg at h
  repeat' split at h
  all_goals (first | (obtain rfl := Option.some.inj h; simp; done) | (cases h; done))
theorem groups (p : List Int) (h4 : p.length % 4 = 0) : p = [] ∨ ∃ a b c d t, p = a :: b :: c :: d :: t ∧ t.length % 4 = 0 := by
  match p, h4 with
  | [], _ => exact .inl rfl
  | [_], h => simp at h
  | [_, _], h => simp at h
  | [_, _, _], h => simp at h
  | a :: b :: c :: d :: t, h => exact .inr ⟨a, b, c, d, t, rfl, by simp only [List.length_cons] at h; omega⟩
theorem Dec_l0 (dd : Nat) : ∀ (p acc : List Int), p.length ≤ dd → p.length % 4 = 0 → byte p → acc.length + 3 * p.length ≤ 10000000 →
    Ev (fun k => b64_Decode.l0 k p acc) (told ((D p).map (acc ++ ·))) := by
  induction dd using Nat.strongRecOn with
  | _ dd ih =>
    intro p acc hd h4 hp ha
    refine st (fun k => by rw [b64_Decode.l0]) ?_
    rcases groups p h4 with rfl | ⟨a, b, c, d, t, rfl, ht⟩
    · exact no (by simp) (fin (by simp [D, told]))
    · refine yes (by simp; omega) (yes (by simp; omega) ?_)
      have hlast : (((a :: b :: c :: d :: t).length : Int) == 4) = t.isEmpty := by
        cases t with
        | nil => rfl
        | cons e t => rw [List.isEmpty_cons, beq_eq_false_iff_ne]; simp only [List.length_cons]; omega
      rw [hlast]
      refine bnd (dg_eq t.isEmpty a b c d (hp a (by simp)) (hp b (by simp)) (hp c (by simp)) (hp d (by simp))) ?_
      rw [D]
      cases hg : dg t.isEmpty a b c d with
      | none => exact no (by simp [told]) (fin rfl)
      | some o =>
        have ho := dg_len hg
        simp only [List.length_cons] at hd ha
        refine yes rfl (yes (by show acc.length + o.length < _; omega) ?_)
        have := ih (dd - 1) (by omega) t (acc ++ o) (by omega) ht (fun x hx => hp x (by simp [hx])) (by simp; omega)
        refine toE this ?_
        cases D t with
        | none => rfl
        | some o2 => simp [told]
/-- what Decode tells -/
def dec (l : List Int) : Option (List Int) := if (bare l).length % 4 = 0 then D (bare l) else none
theorem dec_eq (l : List Int) (hb : byte l) (hl : l.length ≤ 100000) : Ev (fun k => b64_Decode.f k l) (told (dec l)) := by
  refine bnd (bare_eq l hl) ?_
  unfold dec
  have := bare_len l
  by_cases h : (bare l).length % 4 = 0
  · refine yes (by omega) ?_
    rw [if_pos h]
    refine toE (Dec_l0 (bare l).length (bare l) [] (Nat.le_refl _) h (bare_byte hb) (by simp; omega)) ?_
    cases D (bare l) <;> rfl
  · exact no (by omega) (fin (by rw [if_neg h]; rfl))
end Go.Proofs.YtnmojlolgioijaaDoor.B64
