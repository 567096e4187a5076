/- What is read of a text's letters is the text; letters that are read are its own; and the document reads the same. -/
import Derived.Test.YtnmojlolgioijaaDoorDec
import Derived.Test.YtnmojlolgioijaaDoorREnc
import Derived.Test.YtnmojlolgioijaaDoorPx5
set_option linter.unusedVariables false
set_option linter.unusedSimpArgs false
namespace Go.Proofs.YtnmojlolgioijaaDoor.B64
open Go.RowKit Go.Proofs.YtnmojlolgioijaaDoor.P Go.Proofs.YtnmojlolgioijaaDoorW.PrintWords Go.Proofs.YtnmojlolgioijaaDoorW.PrintLast Go.Proofs.YtnmojlolgioijaaDoorW.PrintMore Go.Proofs.YtnmojlolgioijaaDoor.Aids

theorem D_E : ∀ l : List Int, byte l → D (E l) = some l
  | [], h => rfl
  | [a], h => by
    have ha := h a (by simp)
    show ((dg true (L (a / 4)) (L (a % 4 * 16)) 61 61).bind fun o => (D []).map (o ++ ·)) = _
    unfold dg
    rw [if_pos ⟨rfl, rfl⟩, if_pos rfl, val_L _ (by omega) (by omega), val_L _ (by omega) (by omega), if_neg (by omega), if_neg (by omega), if_pos (by omega)]
    show some [_] = some [_]
    rw [show a / 4 * 4 + a % 4 * 16 / 16 = a by omega]
  | [a, b], h => by
    have ha := h a (by simp)
    have hb := h b (by simp)
    have r := L_range (b % 16 * 4) (by omega) (by omega)
    show ((dg true (L (a / 4)) (L (a % 4 * 16 + b / 16)) (L (b % 16 * 4)) 61).bind fun o => (D []).map (o ++ ·)) = _
    unfold dg
    rw [if_pos ⟨rfl, rfl⟩, if_neg r.2.2, val_L _ (by omega) (by omega), val_L _ (by omega) (by omega), val_L _ (by omega) (by omega), if_neg (by omega), if_neg (by omega), if_neg (by omega), if_pos (by omega)]
    show some [_, _] = some [_, _]
    rw [show a / 4 * 4 + (a % 4 * 16 + b / 16) / 16 = a by omega, show (a % 4 * 16 + b / 16) % 16 * 16 + b % 16 * 4 / 4 = b by omega]
  | a :: b :: c :: t, h => by
    have ha := h a (by simp)
    have hb := h b (by simp)
    have hc := h c (by simp)
    have r := L_range (c % 64) (by omega) (by omega)
    show ((dg (E t).isEmpty (L (a / 4)) (L (a % 4 * 16 + b / 16)) (L (b % 16 * 4 + c / 64)) (L (c % 64))).bind fun o => (D (E t)).map (o ++ ·)) = _
    unfold dg
    rw [if_neg (fun h => r.2.2 h.2), val_L _ (by omega) (by omega), val_L _ (by omega) (by omega), val_L _ (by omega) (by omega), val_L _ (by omega) (by omega), if_neg (by omega), if_neg (by omega), if_neg (by omega), if_neg (by omega), D_E t (fun x hx => h x (by simp [hx]))]
    show some (_ :: _ :: _ :: t) = some (a :: b :: c :: t)
    rw [show a / 4 * 4 + (a % 4 * 16 + b / 16) / 16 = a by omega, show (a % 4 * 16 + b / 16) % 16 * 16 + (b % 16 * 4 + c / 64) / 4 = b by omega, show (b % 16 * 4 + c / 64) % 4 * 64 + c % 64 = c by omega]
/-- the groups of what is read -/
theorem dg_E {last : Bool} {a b c d : Int} {o : List Int} (ha : 0 ≤ a ∧ a ≤ 255) (hb : 0 ≤ b ∧ b ≤ 255) (hc : 0 ≤ c ∧ c ≤ 255) (hd : 0 ≤ d ∧ d ≤ 255) (h : dg last a b c d = some o) :
    byte o ∧ ((last = true ∧ E o = [a, b, c, d]) ∨ ∃ x y z, o = [x, y, z] ∧ E o = [a, b, c, d]) := by
  have va := val_r a ha
  have vb := val_r b hb
  have vc := val_r c hc
  have vd := val_r d hd
  unfold dg at h
  by_cases hl : last = true ∧ d = 61
  · rw [if_pos hl] at h
    by_cases h61 : c = 61
    · rw [if_pos h61] at h
      by_cases h1 : val a < 0
      · rw [if_pos h1] at h; cases h
      rw [if_neg h1] at h
      by_cases h2 : val b < 0
      · rw [if_pos h2] at h; cases h
      rw [if_neg h2] at h
      by_cases h3 : val b % 16 = 0
      · rw [if_pos h3] at h
        obtain rfl := Option.some.inj h
        refine ⟨byte_one (by omega) (by omega), .inl ⟨hl.1, ?_⟩⟩
        show [L _, L _, 61, 61] = _
        rw [show (val a * 4 + val b / 16) / 4 = val a by omega, show (val a * 4 + val b / 16) % 4 * 16 = val b by omega, va.2.2 (by omega), vb.2.2 (by omega), h61, hl.2]
      · rw [if_neg h3] at h; cases h
    · rw [if_neg h61] at h
      by_cases h1 : val a < 0
      · rw [if_pos h1] at h; cases h
      rw [if_neg h1] at h
      by_cases h2 : val b < 0
      · rw [if_pos h2] at h; cases h
      rw [if_neg h2] at h
      by_cases h4 : val c < 0
      · rw [if_pos h4] at h; cases h
      rw [if_neg h4] at h
      by_cases h3 : val c % 4 = 0
      · rw [if_pos h3] at h
        obtain rfl := Option.some.inj h
        refine ⟨byte_cons ⟨by omega, by omega⟩ (byte_one (by omega) (by omega)), .inl ⟨hl.1, ?_⟩⟩
        show [L _, L _, L _, 61] = _
        rw [show (val a * 4 + val b / 16) / 4 = val a by omega, show (val a * 4 + val b / 16) % 4 * 16 + (val b % 16 * 16 + val c / 4) / 16 = val b by omega, show (val b % 16 * 16 + val c / 4) % 16 * 4 = val c by omega, va.2.2 (by omega), vb.2.2 (by omega), vc.2.2 (by omega), hl.2]
      · rw [if_neg h3] at h; cases h
  · rw [if_neg hl] at h
    by_cases h1 : val a < 0
    · rw [if_pos h1] at h; cases h
    rw [if_neg h1] at h
    by_cases h2 : val b < 0
    · rw [if_pos h2] at h; cases h
    rw [if_neg h2] at h
    by_cases h4 : val c < 0
    · rw [if_pos h4] at h; cases h
    rw [if_neg h4] at h
    by_cases h3 : val d < 0
    · rw [if_pos h3] at h; cases h
    rw [if_neg h3] at h
    obtain rfl := Option.some.inj h
    refine ⟨byte_cons ⟨by omega, by omega⟩ (byte_cons ⟨by omega, by omega⟩ (byte_one (by omega) (by omega))), .inr ⟨_, _, _, rfl, ?_⟩⟩
    show [L _, L _, L _, L _] = _
    rw [show (val a * 4 + val b / 16) / 4 = val a by omega, show (val a * 4 + val b / 16) % 4 * 16 + (val b % 16 * 16 + val c / 4) / 16 = val b by omega, show (val b % 16 * 16 + val c / 4) % 16 * 4 + (val c % 4 * 64 + val d) / 64 = val c by omega, show (val c % 4 * 64 + val d) % 64 = val d by omega, va.2.2 (by omega), vb.2.2 (by omega), vc.2.2 (by omega), vd.2.2 (by omega)]
theorem E_D (dd : Nat) : ∀ (p o : List Int), p.length ≤ dd → p.length % 4 = 0 → byte p → D p = some o → E o = p ∧ byte o := by
  induction dd using Nat.strongRecOn with
  | _ dd ih =>
    intro p o hd h4 hp h
    rcases groups p h4 with rfl | ⟨a, b, c, d, t, rfl, ht⟩
    · obtain rfl := Option.some.inj h
      exact ⟨rfl, byte_nil⟩
    · rw [D] at h
      obtain ⟨g, hg, h⟩ := Option.bind_eq_some_iff.mp h
      obtain ⟨o2, h2, rfl⟩ := Option.map_eq_some_iff.mp h
      simp only [List.length_cons] at hd
      have i2 := ih (dd - 1) (by omega) t o2 (by omega) ht (fun x hx => hp x (by simp [hx])) h2
      obtain ⟨hbg, hc | ⟨x, y, z, rfl, hE⟩⟩ := dg_E (hp a (by simp)) (hp b (by simp)) (hp c (by simp)) (hp d (by simp)) hg
      · have : t = [] := List.isEmpty_iff.1 hc.1
        subst this
        obtain rfl := Option.some.inj h2
        rw [List.append_nil]
        exact ⟨hc.2, hbg⟩
      · refine ⟨?_, byte_append hbg i2.2⟩
        have e : E ([x, y, z] ++ o2) = E [x, y, z] ++ E o2 := rfl
        rw [e, hE, i2.1]; rfl
theorem dec_E {l o : List Int} (hb : byte l) (h : dec l = some o) : E o = bare l ∧ byte o := by
  unfold dec at h
  by_cases h4 : (bare l).length % 4 = 0
  · rw [if_pos h4] at h
    exact E_D _ _ _ (Nat.le_refl _) h4 (bare_byte hb) h
  · rw [if_neg h4] at h; cases h
theorem dec_of {l o : List Int} (hb : byte o) (h : bare l = E o) : dec l = some o := by
  unfold dec
  rw [h, if_pos (by rw [E_len]; omega), D_E o hb]
/-- the document's bytes of a group, of all -/
def rv (c : Int) : Int := if val c < 0 then 0 else val c
def rg (a b c d : Int) : List Int := [(rv a * 4 + rv b / 16) % 256] ++ (if c = 61 then [] else [(rv b % 16 * 16 + rv c / 4) % 256]) ++ (if d = 61 then [] else [(rv c % 4 * 64 + rv d) % 256])
def R : List Int → List Int
  | a :: b :: c :: d :: t => rg a b c d ++ R t
  | _ => []
theorem rv_L (n : Int) (h0 : 0 ≤ n) (h1 : n < 64) : rv (L n) = n := by unfold rv; rw [val_L n h0 h1, if_neg (by omega)]
theorem rv61 : rv 61 = 0 := by decide
theorem R_E : ∀ l : List Int, byte l → R (E l) = l
  | [], h => rfl
  | [a], h => by
    have ha := h a (by simp)
    show rg (L (a / 4)) (L (a % 4 * 16)) 61 61 ++ [] = _
    unfold rg
    rw [if_pos rfl, if_pos rfl, rv_L _ (by omega) (by omega), rv_L _ (by omega) (by omega)]
    show [_] = [_]
    rw [show (a / 4 * 4 + a % 4 * 16 / 16) % 256 = a by omega]
  | [a, b], h => by
    have ha := h a (by simp)
    have hb := h b (by simp)
    have r := L_range (b % 16 * 4) (by omega) (by omega)
    show rg (L (a / 4)) (L (a % 4 * 16 + b / 16)) (L (b % 16 * 4)) 61 ++ [] = _
    unfold rg
    rw [if_neg r.2.2, if_pos rfl, rv_L _ (by omega) (by omega), rv_L _ (by omega) (by omega), rv_L _ (by omega) (by omega)]
    show [_, _] = [_, _]
    rw [show (a / 4 * 4 + (a % 4 * 16 + b / 16) / 16) % 256 = a by omega, show ((a % 4 * 16 + b / 16) % 16 * 16 + b % 16 * 4 / 4) % 256 = b by omega]
  | a :: b :: c :: t, h => by
    have ha := h a (by simp)
    have hb := h b (by simp)
    have hc := h c (by simp)
    have r := L_range (c % 64) (by omega) (by omega)
    have r2 := L_range (b % 16 * 4 + c / 64) (by omega) (by omega)
    show rg (L (a / 4)) (L (a % 4 * 16 + b / 16)) (L (b % 16 * 4 + c / 64)) (L (c % 64)) ++ R (E t) = _
    unfold rg
    rw [if_neg r.2.2, if_neg r2.2.2, rv_L _ (by omega) (by omega), rv_L _ (by omega) (by omega), rv_L _ (by omega) (by omega), rv_L _ (by omega) (by omega), R_E t (fun x hx => h x (by simp [hx]))]
    show _ :: _ :: _ :: t = _ :: _ :: _ :: t
    rw [show (a / 4 * 4 + (a % 4 * 16 + b / 16) / 16) % 256 = a by omega, show ((a % 4 * 16 + b / 16) % 16 * 16 + (b % 16 * 4 + c / 64) / 4) % 256 = b by omega, show ((b % 16 * 4 + c / 64) % 4 * 64 + c % 64) % 256 = c by omega]
theorem rg_byte (a b c d : Int) : byte (rg a b c d) := by
  unfold rg
  refine byte_append (byte_append (byte_one (by omega) (by omega)) ?_) ?_
  · split
    · exact byte_nil
    · exact byte_one (by omega) (by omega)
  · split
    · exact byte_nil
    · exact byte_one (by omega) (by omega)
theorem rg_len (a b c d : Int) : (rg a b c d).length ≤ 3 := by unfold rg; split <;> split <;> simp
theorem R_byte (dd : Nat) : ∀ p : List Int, p.length ≤ dd → p.length % 4 = 0 → byte (R p) := by
  induction dd using Nat.strongRecOn with
  | _ dd ih =>
    intro p hd h4
    rcases groups p h4 with rfl | ⟨a, b, c, d, t, rfl, ht⟩
    · exact byte_nil
    · simp only [List.length_cons] at hd
      exact byte_append (rg_byte a b c d) (ih (dd - 1) (by omega) t (by omega) ht)
theorem rbare_l0 (x : List Int) (hx : byte x) (hl : x.length ≤ 100000) (d : Nat) : ∀ (i : Nat) (acc : List Int), x.length - i ≤ d → i ≤ x.length → acc.length ≤ i →
    Ev (fun k => letterboxref02_Bare.l0 k (strOfNums x) acc (i : Int)) (strOfNums (acc ++ bare (x.drop i))) := by
  induction d with
  | zero =>
    intro i acc hd hi ha
    refine st (fun k => by rw [letterboxref02_Bare.l0]) ?_
    exact no (by rw [strOfNums_size]; omega) (fin (by rw [List.drop_eq_nil_of_le (by omega)]; simp [bare]))
  | succ d ih =>
    intro i acc hd hi ha
    refine st (fun k => by rw [letterboxref02_Bare.l0]) ?_
    simp only [strOfNums_size, str_bt x hx]
    by_cases hlt : i < x.length
    · have e1 : wrap64 ((i : Int) + 1) = ((i + 1 : Nat) : Int) := by rw [w64 (by omega) (by omega)]; omega
      rw [drop_rd x i hlt]
      simp only [e1]
      refine yes (by omega) (yes (by omega) ?_)
      generalize rd x (i : Int) = c at *
      have h1 : gap c = true → Ev (fun k => letterboxref02_Bare.l0 k (strOfNums x) acc ((i + 1 : Nat) : Int)) (strOfNums (acc ++ bare (c :: x.drop (i + 1)))) := by
        intro hg
        refine toE (ih (i + 1) acc (by omega) (by omega) (by omega)) ?_
        unfold bare; rw [List.filter_cons, if_neg (by rw [hg]; decide)]
      by_cases a1 : c = 32
      · exact yes a1 (h1 (by rw [a1]; rfl))
      refine no a1 ?_
      by_cases a2 : c = 9
      · exact yes a2 (h1 (by rw [a2]; rfl))
      refine no a2 ?_
      by_cases a3 : c = 13
      · exact yes a3 (h1 (by rw [a3]; rfl))
      refine no a3 ?_
      by_cases a4 : c = 10
      · exact yes a4 (h1 (by rw [a4]; rfl))
      refine no a4 (yes (by omega) ?_)
      refine toE (ih (i + 1) (acc ++ [c]) (by omega) (by omega) (by simp; omega)) ?_
      unfold bare
      rw [List.filter_cons, if_pos (by unfold gap; simp; omega), List.append_assoc]; rfl
    · exact no (by omega) (fin (by rw [List.drop_eq_nil_of_le (by omega)]; simp [bare]))
theorem rbare_eq (x : List Int) (hx : byte x) (hl : x.length ≤ 100000) : Ev (fun k => letterboxref02_Bare.f k (strOfNums x)) (strOfNums (bare x)) := by
  have := rbare_l0 x hx hl x.length 0 [] (by omega) (by omega) (by simp)
  exact this
theorem rval_l0 (c : Int) (hc : 0 ≤ c ∧ c ≤ 255) (d : Nat) : ∀ i : Nat, 64 - i ≤ d → i ≤ 64 → (∀ j : Nat, j < i → L (j : Int) ≠ c) →
    Ev (fun k => letterboxref02_value.l0 k c (i : Int)) (if val c < 0 then 64 else val c) := by
  have vc := val_r c hc
  induction d with
  | zero =>
    intro i hd hi hn
    refine st (fun k => by rw [letterboxref02_value.l0]) ?_
    refine no (by omega) (fin ?_)
    by_cases h : val c < 0
    · rw [if_pos h]
    · exfalso
      refine hn (val c).toNat (by omega) ?_
      rw [Int.toNat_of_nonneg (by omega)]; exact vc.2.2 (by omega)
  | succ d ih =>
    intro i hd hi hn
    refine st (fun k => by rw [letterboxref02_value.l0]) ?_
    by_cases hlt : i < 64
    · refine yes (by omega) ?_
      rw [letter_eq (i : Int) (by omega) (by omega), show wrap64 ((i : Int) + 1) = ((i + 1 : Nat) : Int) by rw [w64 (by omega) (by omega)]; omega]
      refine bs ?_
      have hL := L_range (i : Int) (by omega) (by omega)
      have hiff : (strOfNums [L (i : Int)]).toList = (strOfNums ([c] : List Int)).toList ↔ L (i : Int) = c := by
        rw [toList_iff, bytes_str _ (byte_one (by omega) (by omega)), bytes_str _ (byte_one hc.1 hc.2)]; simp
      by_cases h : L (i : Int) = c
      · refine yes (hiff.2 h) (fin ?_)
        rw [← h, val_L _ (by omega) (by omega), if_neg (by omega)]
      · refine no (fun e => h (hiff.1 e)) (ih (i + 1) (by omega) (by omega) ?_)
        intro j hj
        by_cases e : j = i
        · rw [e]; exact h
        · exact hn j (by omega)
    · refine no (by omega) (fin ?_)
      by_cases h : val c < 0
      · rw [if_pos h]
      · exfalso
        refine hn (val c).toNat (by omega) ?_
        rw [Int.toNat_of_nonneg (by omega)]; exact vc.2.2 (by omega)
theorem rval_eq (c : Int) (hc : 0 ≤ c ∧ c ≤ 255) : Ev (fun k => letterboxref02_value.f k c) (if val c < 0 then 64 else val c) :=
  rval_l0 c hc 64 0 (by omega) (by omega) (fun j hj => by omega)
theorem rv_mod (c : Int) (hc : 0 ≤ c ∧ c ≤ 255) : Int.tmod (if val c < 0 then 64 else val c) 64 = rv c ∧ 0 ≤ rv c ∧ rv c < 64 := by
  have vc := val_r c hc
  unfold rv
  by_cases h : val c < 0
  · rw [if_pos h, if_pos h]; decide
  · rw [if_neg h, if_neg h, tmod_pos (by omega)]; omega
def rtold (p o : List Int) : ByteArray × Bool := if E o = p then (strOfNums o, true) else (⟨#[]⟩, false)
theorem rdec_l0 (x : List Int) (hx : byte x) (h4 : x.length % 4 = 0) (hl : x.length ≤ 100000) (dd : Nat) : ∀ (i : Nat) (acc : List Int), x.length - i ≤ dd → i ≤ x.length → i % 4 = 0 → acc.length ≤ i → byte acc →
    Ev (fun k => letterboxref02_Decode.l0 k (strOfNums x) acc (i : Int)) (rtold x (acc ++ R (x.drop i))) := by
  induction dd using Nat.strongRecOn with
  | _ dd ih =>
    intro i acc hd hi hi4 ha hab
    refine st (fun k => by rw [letterboxref02_Decode.l0]) ?_
    simp only [strOfNums_size, str_bt x hx]
    rcases groups (x.drop i) (by rw [List.length_drop]; omega) with hdr | ⟨a, b, c, d, t, hdr, ht⟩
    · have : x.length ≤ i := by
        have := congrArg List.length hdr
        rw [List.length_drop] at this; simp at this; omega
      rw [hdr]
      refine no (by omega) (bnd (plain_eq acc hab (by omega)) ?_)
      rw [show acc ++ R [] = acc from List.append_nil _]
      have hiff : (strOfNums (E acc)).toList = (strOfNums x).toList ↔ E acc = x := by
        rw [toList_iff, bytes_str _ (E_byte hab), bytes_str _ hx]
      unfold rtold
      by_cases h : E acc = x
      · exact yes (hiff.2 h) (fin (by rw [if_pos h]))
      · exact no (fun e => h (hiff.1 e)) (fin (by rw [if_neg h]))
    · obtain ⟨l0, ra, h1⟩ := drop_cons hdr
      obtain ⟨l1, rb, h2⟩ := drop_cons h1
      obtain ⟨l2, rc, h3⟩ := drop_cons h2
      obtain ⟨l3, rdd, h5⟩ := drop_cons h3
      have ha1 : 0 ≤ a ∧ a ≤ 255 := by rw [← ra]; exact hx _ (rd_mem x i l0)
      have hb1 : 0 ≤ b ∧ b ≤ 255 := by rw [← rb]; exact hx _ (rd_mem x (i + 1) l1)
      have hc1 : 0 ≤ c ∧ c ≤ 255 := by rw [← rc]; exact hx _ (rd_mem x (i + 1 + 1) l2)
      have hd1 : 0 ≤ d ∧ d ≤ 255 := by rw [← rdd]; exact hx _ (rd_mem x (i + 1 + 1 + 1) l3)
      have e1 : wrap64 ((i : Int) + 1) = ((i + 1 : Nat) : Int) := by rw [w64 (by omega) (by omega)]; omega
      have e2 : wrap64 ((i : Int) + 2) = ((i + 1 + 1 : Nat) : Int) := by rw [w64 (by omega) (by omega)]; omega
      have e3 : wrap64 ((i : Int) + 3) = ((i + 1 + 1 + 1 : Nat) : Int) := by rw [w64 (by omega) (by omega)]; omega
      have e4 : wrap64 ((i : Int) + 4) = ((i + 4 : Nat) : Int) := by rw [w64 (by omega) (by omega)]; omega
      have ma := rv_mod a ha1
      have mb := rv_mod b hb1
      have mc := rv_mod c hc1
      have md := rv_mod d hd1
      simp only [e1, e2, e3, e4, ra, rb, rc, rdd]
      refine yes (by omega) (yes (by omega) (bnd (rval_eq a ha1) (yes (by omega) (yes (by omega) (bnd (rval_eq b hb1) (yes (by omega) (yes (by omega) (bnd (rval_eq c hc1) (yes (by omega) (yes (by omega) (bnd (rval_eq d hd1) (yes (by omega) (bs ?_)))))))))))))
      rw [ma.1, mb.1, mc.1, md.1]
      have q1 : wrap64 (wrap64 (rv a * 4) + wrap64 (Int.tdiv (rv b) 16)) % 256 = (rv a * 4 + rv b / 16) % 256 := by
        rw [tdiv_pos mb.2.1, w64 (x := rv a * 4) (by omega) (by omega), w64 (x := rv b / 16) (by omega) (by omega), w64 (by omega) (by omega)]
      have q2 : wrap64 (wrap64 (Int.tmod (rv b) 16 * 16) + wrap64 (Int.tdiv (rv c) 4)) % 256 = (rv b % 16 * 16 + rv c / 4) % 256 := by
        rw [tmod_pos mb.2.1, tdiv_pos mc.2.1, w64 (x := rv b % 16 * 16) (by omega) (by omega), w64 (x := rv c / 4) (by omega) (by omega), w64 (by omega) (by omega)]
      have q3 : wrap64 (wrap64 (Int.tmod (rv c) 4 * 64) + rv d) % 256 = (rv c % 4 * 64 + rv d) % 256 := by
        rw [tmod_pos mc.2.1, w64 (x := rv c % 4 * 64) (by omega) (by omega), w64 (by omega) (by omega)]
      rw [q1]
      have nx : ∀ y : List Int, y = acc ++ rg a b c d → Ev (fun k => letterboxref02_Decode.l0 k (strOfNums x) y ((i + 4 : Nat) : Int)) (rtold x (acc ++ R (x.drop i))) := by
        intro y hy
        have hlen := rg_len a b c d
        have := ih (dd - 1) (by omega) (i + 4) y (by omega) (by omega) (by omega) (by rw [hy, List.length_append]; omega) (by rw [hy]; exact byte_append hab (rg_byte a b c d))
        refine toE this ?_
        rw [hdr, show x.drop (i + 4) = t from h5, hy, List.append_assoc]; rfl
      by_cases c61 : c = 61
      · refine yes c61 ?_
        by_cases d61 : d = 61
        · exact yes d61 (nx _ (by unfold rg; rw [if_pos c61, if_pos d61]; simp))
        · refine no d61 (yes (by simp; omega) ?_)
          rw [q3]
          exact nx _ (by unfold rg; rw [if_pos c61, if_neg d61]; simp)
      · refine no c61 (yes (by simp; omega) (bs ?_))
        rw [q2]
        by_cases d61 : d = 61
        · exact yes d61 (nx _ (by unfold rg; rw [if_neg c61, if_pos d61]; simp))
        · refine no d61 (yes (by simp; omega) ?_)
          rw [q3]
          exact nx _ (by unfold rg; rw [if_neg c61, if_neg d61]; simp)
def stold : Option (List Int) → ByteArray × Bool
  | none => (⟨#[]⟩, false)
  | some o => (strOfNums o, true)
theorem rdec_eq (l : List Int) (hb : byte l) (hl : l.length ≤ 100000) : Ev (fun k => letterboxref02_Decode.f k (strOfNums l)) (stold (dec l)) := by
  refine bnd (rbare_eq l hb hl) ?_
  simp only [strOfNums_size]
  have hlen := bare_len l
  have hbb := bare_byte hb
  unfold dec
  by_cases h : (bare l).length % 4 = 0
  · refine yes (by omega) ?_
    rw [if_pos h]
    refine toE (rdec_l0 (bare l) hbb h (by omega) (bare l).length 0 [] (by omega) (by omega) (by omega) (by simp) byte_nil) ?_
    rw [List.drop_zero, List.nil_append]
    unfold rtold
    cases hD : D (bare l) with
    | some o =>
      have he := E_D _ _ _ (Nat.le_refl _) h hbb hD
      have hr : R (bare l) = o := by rw [← he.1, R_E o he.2]
      rw [hr, if_pos he.1]; rfl
    | none =>
      have hn : ¬ E (R (bare l)) = bare l := by
        intro he
        have := D_E (R (bare l)) (R_byte _ _ (Nat.le_refl _) h)
        rw [he, hD] at this
        cases this
      rw [if_neg hn]; rfl
  · exact no (by omega) (fin (by rw [if_neg h]; rfl))
end Go.Proofs.YtnmojlolgioijaaDoor.B64
