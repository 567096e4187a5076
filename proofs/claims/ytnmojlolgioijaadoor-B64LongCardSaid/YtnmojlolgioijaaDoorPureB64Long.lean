/- The law B64Long holds of every row of bytes and every width: letters are as many as bytes need, in lines of just the width. No condition. -/
import Derived.Test.YtnmojlolgioijaaDoorPureB64Back
import Derived.Test.YtnmojlolgioijaaDoorPx9
set_option linter.unusedVariables false
namespace Go.Proofs.YtnmojlolgioijaaDoor.Pure
open Go.RowKit Go.Proofs.YtnmojlolgioijaaDoor.P Go.Proofs.YtnmojlolgioijaaDoorW.PrintWords Go.Proofs.YtnmojlolgioijaaDoorW.PrintLast Go.Proofs.YtnmojlolgioijaaDoor.Aids Go.Proofs.YtnmojlolgioijaaDoor.B64

theorem ch_count (w : Nat) (h1 : 1 ≤ w) : ∀ (d : Nat) (p : List Int), p.length ≤ d → (ch w d p).length = p.length + 2 * ((p.length + w - 1) / w)
  | 0, p, h => by
    have : p = [] := List.eq_nil_of_length_eq_zero (by omega)
    subst this
    simp only [ch, List.length_nil, Nat.zero_add]
    rw [Nat.div_eq_of_lt (by omega)]
  | d + 1, p, h => by
    unfold ch
    by_cases hp : p = []
    · subst hp
      simp only [if_true, List.length_nil, Nat.zero_add]
      rw [Nat.div_eq_of_lt (by omega)]
    · have hpos : 0 < p.length := List.length_pos_iff.2 hp
      have ih := ch_count w h1 d (p.drop w) (by rw [List.length_drop]; omega)
      rw [if_neg hp]
      simp only [List.length_append, List.length_take, List.length_drop, List.length_cons, List.length_nil] at ih ⊢
      rw [ih]
      by_cases hw : w ≤ p.length
      · rw [show p.length + w - 1 = (p.length - w + w - 1) + w by omega, Nat.add_div_right _ (by omega)]; omega
      · rw [show p.length - w + w - 1 = w - 1 by omega, Nat.div_eq_of_lt (show w - 1 < w by omega), show p.length + w - 1 = (p.length - 1) + w by omega, Nat.add_div_right _ (by omega), Nat.div_eq_of_lt (show p.length - 1 < w by omega)]; omega
theorem ch_cut (w : Nat) (h1 : 1 ≤ w) : ∀ (i d : Nat) (p : List Int), p.length ≤ d → (i + 1) * w ≤ p.length → ∃ t, (ch w d p).drop (i * (w + 2) + w) = 13 :: 10 :: t := by
  intro i
  induction i with
  | zero =>
    intro d p hd hi
    cases d with
    | zero => omega
    | succ d =>
      have hp : p ≠ [] := by intro e; rw [e] at hi; simp at hi; omega
      have hl : (p.take w).length = w := by rw [List.length_take]; omega
      refine ⟨ch w d (p.drop w), ?_⟩
      rw [show ch w (d + 1) p = p.take w ++ [13, 10] ++ ch w d (p.drop w) from if_neg hp, List.append_assoc, Nat.zero_mul, Nat.zero_add, List.drop_append_of_le_length (by omega), List.drop_of_length_le (by omega)]; rfl
  | succ i ih =>
    intro d p hd hi
    cases d with
    | zero => have : p.length = 0 := by omega
              rw [this] at hi
              have : 1 * 1 ≤ (i + 1 + 1) * w := Nat.mul_le_mul (by omega) h1
              omega
    | succ d =>
      have e1 : (i + 1 + 1) * w = (i + 1) * w + w := Nat.succ_mul _ _
      have e2 : (i + 1) * (w + 2) = i * (w + 2) + (w + 2) := Nat.succ_mul _ _
      have hp : p ≠ [] := by intro e; rw [e] at hi; simp at hi; omega
      have hl : (p.take w ++ [13, 10]).length = w + 2 := by rw [List.length_append, List.length_take]; simp; omega
      obtain ⟨t, ht⟩ := ih d (p.drop w) (by rw [List.length_drop]; omega) (by rw [List.length_drop]; omega)
      refine ⟨t, ?_⟩
      rw [show ch w (d + 1) p = p.take w ++ [13, 10] ++ ch w d (p.drop w) from if_neg hp, show (i + 1) * (w + 2) + w = (p.take w ++ [13, 10]).length + (i * (w + 2) + w) by omega, List.drop_length_add_append]
      exact ht
theorem B64Long : letterboxlaw02_B64Long.Pure := by
  intro l w8 _ _ h3 h4
  have hb : byte l := byte_wf h3
  have hw := wf_u8 h4
  refine Ev.rounds (g := fun k => letterboxlaw02_B64Long.f k l w8) ?_
  show Ev (fun k => (letterboxlaw02_awake.f).bind _) _
  refine bs ?_
  refine yes rfl ?_
  by_cases h0 : (l.length : Int) > 300
  · exact yes h0 (fin rfl)
  refine no h0 ?_
  obtain ⟨w, hwn⟩ : ∃ w : Nat, (w : Int) = w8 + 1 := ⟨(w8 + 1).toNat, by omega⟩
  have ew : Aside0 (wrap64 (wrap64 w8 + 1) = (w : Int)) := ⟨by rw [w64 (x := w8) (by omega) (by omega), w64 (by omega) (by omega)]; omega⟩
  have hEl := E_len l
  have en : Aside0 (wrap64 (wrap64 (Int.tdiv (wrap64 ((l.length : Int) + 2)) 3) * 4) = ((E l).length : Int)) := ⟨by
    rw [w64 (x := (l.length : Int) + 2) (by omega) (by omega), tdiv_pos (by omega), w64 (x := ((l.length : Int) + 2) / 3) (by omega) (by omega), w64 (by omega) (by omega), hEl]; omega⟩
  rw [en.out, enc_eq l 0 hb (by omega) (by decide), enc_eq l (-5) hb (by omega) (by decide), show enc l 0 = E l from rfl, show enc l (-5) = E l from rfl]
  refine bs (yes rfl (bs ?_))
  refine st (fun k => by rw [letterboxlaw02_B64Long.j0]) ?_
  rw [ew.out, enc_eq l (w : Int) hb (by omega) (by omega)]
  refine no (by simp) (bs (no (by omega) ?_))
  have he : enc l (w : Int) = ch w (E l).length (E l) := by unfold enc; rw [if_neg (by omega), Int.toNat_natCast]
  have hbare := bare_enc hb (w : Int)
  rw [he] at hbare ⊢
  have hcount := ch_count w (by omega) (E l).length (E l) (Nat.le_refl _)
  have hcut := fun i => ch_cut w (by omega) i (E l).length (E l) (Nat.le_refl _)
  generalize ch w (E l).length (E l) = e at *
  obtain ⟨n, hn⟩ : ∃ n, n = (E l).length := ⟨_, rfl⟩
  rw [← hn] at hcount hcut hEl ⊢
  have el : Aside0 (wrap64 (Int.tdiv (wrap64 (wrap64 ((n : Int) + (w : Int)) - 1)) (w : Int)) = (((n + w - 1) / w : Nat) : Int)) := ⟨by
    rw [w64 (x := (n : Int) + (w : Int)) (by omega) (by omega), w64 (x := (n : Int) + (w : Int) - 1) (by omega) (by omega), show (n : Int) + (w : Int) - 1 = ((n + w - 1 : Nat) : Int) by omega, tdiv_nat]
    have := Nat.div_le_self (n + w - 1) w
    exact w64 (by omega) (by omega)⟩
  rw [el.out]
  have hdl := Nat.div_le_self (n + w - 1) w
  have hdm : (n + w - 1) / w * w ≤ n + w - 1 := Nat.div_mul_le_self _ _
  generalize (n + w - 1) / w = m at *
  rw [w64 (x := 2 * (m : Int)) (by omega) (by omega), w64 (x := (n : Int) + 2 * (m : Int)) (by omega) (by omega)]
  refine yes (by omega) ?_
  have hfin : Ev (fun k => (b64_Bare.f k e).bind fun t244 => (some (E l)).bind fun t247 => some ((strOfNums t244).toList == (strOfNums t247).toList)) true :=
    bnd (bare_eq e (by omega)) (bs (fin (by rw [hbare]; simp)))
  have loop : ∀ (d i : Nat), m - i ≤ d → Ev (fun k => letterboxlaw02_B64Long.l0 k l (w : Int) e (m : Int) (i : Int)) true := by
    intro d
    induction d with
    | zero =>
      intro i hd
      refine st (fun k => by rw [letterboxlaw02_B64Long.l0]) ?_
      rw [enc_eq l 0 hb (by omega) (by decide), show enc l 0 = E l from rfl]
      exact no (by rw [w64 (by omega) (by omega)]; omega) hfin
    | succ d ih =>
      intro i hd
      refine st (fun k => by rw [letterboxlaw02_B64Long.l0]) ?_
      rw [enc_eq l 0 hb (by omega) (by decide), show enc l 0 = E l from rfl]
      by_cases hlt : i + 1 < m
      · have hi1 : (i + 1) * w ≤ n := by
          have : (i + 1 + 1) * w ≤ m * w := Nat.mul_le_mul_right w (by omega)
          have e1' : (i + 1 + 1) * w = (i + 1) * w + w := Nat.succ_mul _ _
          omega
        obtain ⟨t, ht⟩ := hcut i hi1
        obtain ⟨l0, r0, h1⟩ := drop_cons ht
        obtain ⟨l1, r1, h2⟩ := drop_cons h1
        have hbnd : i * (w + 2) ≤ 1000 * 300 := Nat.mul_le_mul (by omega) (by omega)
        have ei : Aside0 (wrap64 ((i : Int) * wrap64 ((w : Int) + 2)) = ((i * (w + 2) : Nat) : Int)) := ⟨by
          rw [w64 (x := (w : Int) + 2) (by omega) (by omega), show (i : Int) * ((w : Int) + 2) = ((i * (w + 2) : Nat) : Int) by rw [Int.natCast_mul]; rfl]
          exact w64 (by omega) (by omega)⟩
        have ek : Aside0 (wrap64 (((i * (w + 2) : Nat) : Int) + (w : Int)) = ((i * (w + 2) + w : Nat) : Int)) := ⟨by rw [w64 (by omega) (by omega)]; omega⟩
        have ek1 : Aside0 (wrap64 (((i * (w + 2) + w : Nat) : Int) + 1) = ((i * (w + 2) + w + 1 : Nat) : Int)) := ⟨by rw [w64 (by omega) (by omega)]; omega⟩
        have e1 : Aside0 (wrap64 ((i : Int) + 1) = ((i + 1 : Nat) : Int)) := ⟨by rw [w64 (by omega) (by omega)]; omega⟩
        rw [ei.out, ek.out, ek1.out, e1.out]
        refine yes (by rw [w64 (by omega) (by omega)]; omega) (yes (by omega) (yes (by omega) (yes r0 (yes (by omega) (yes (by omega) (yes r1 (ih (i + 1) (by omega))))))))
      · exact no (by rw [w64 (by omega) (by omega)]; omega) hfin
  exact loop m 0 (by omega)
end Go.Proofs.YtnmojlolgioijaaDoor.Pure
