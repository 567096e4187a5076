/- The document's numbers and small letters: what its printed functions tell. -/
import Derived.Test.YtbjbagocnnffaaaDoorChA
import Derived.Test.YtbjbagocnnffaaaDoorPx11
import Derived.Test.YtbjbagocnnffaaaDoorPx11
set_option linter.unusedVariables false
set_option linter.unusedSimpArgs false
set_option linter.unusedSectionVars false
namespace Go.Proofs.YtbjbagocnnffaaaDoor.Chars
open Go.RowKit Go.Proofs.YtbjbagocnnffaaaDoor.P Go.Proofs.YtbjbagocnnffaaaDoorW.PrintWords Go.Proofs.YtbjbagocnnffaaaDoorW.PrintLast Go.Proofs.YtbjbagocnnffaaaDoor.Aids
section
variable (l : List Int) (hl : l.length ≤ 10) (hb : byte l)
include hl hb
theorem rnumber_l0 (d : Nat) : ∀ (i : Nat) (n : Int), l.length - i ≤ d → i ≤ l.length → 0 ≤ n → n < 10 ^ i →
    Ev (fun k => letterboxref01_Number.l0 k (strOfNums l) n (i : Int)) (asNum (numL (l.drop i) n)) := by
  have stop : ∀ n : Int, Ev (fun k => letterboxref01_Number.l0 k (strOfNums l) n (l.length : Int)) (asNum (numL (l.drop l.length) n)) := by
    intro n
    refine st (fun k => by rw [letterboxref01_Number.l0]) ?_
    simp only [strOfNums_size]
    refine no (by omega) ?_
    rw [List.drop_eq_nil_of_le (Nat.le_refl _), numL, asNum, letterboxref01_number.f]
    by_cases h : n > 4294967295
    · rw [if_pos h, if_pos h]; exact bs (fin rfl)
    · rw [if_neg h, if_neg h]; exact bs (fin rfl)
  induction d with
  | zero =>
    intro i n hd hi h0 h1
    have e : i = l.length := by omega
    subst e; exact stop n
  | succ d ih =>
    intro i n hd hi h0 h1
    rcases Nat.lt_or_ge i l.length with hlt | hge
    · have hc := pow_cap (i := i) (by omega)
      have hx := hb _ (rd_mem l i hlt)
      have e1 : wrap64 ((i : Int) + 1) = ((i + 1 : Nat) : Int) := by rw [w64 (by omega) (by omega)]; omega
      refine st (fun k => by rw [letterboxref01_Number.l0]) ?_
      rw [drop_rd l i hlt, numL]
      simp only [strOfNums_size, str_bt _ hb, e1]
      clear e1
      have ihs := ih (i + 1)
      generalize rd l (i : Int) = c at hx ihs ⊢
      refine yes (by omega) (yes (by omega) ?_)
      by_cases h48 : c < 48
      · rw [if_pos h48]; exact yes h48 (fin rfl)
      · by_cases h57 : c > 57
        · rw [if_neg h48, if_pos h57]; exact no h48 (yes h57 (fin rfl))
        · rw [if_neg h48, if_neg h57]
          have e2 : wrap64 (wrap64 (wrap64 (n * 10) + wrap64 c) - 48) = 10 * n + (c - 48) := by
            rw [w64 (x := n * 10) (by omega) (by omega), w64 (x := c) (by omega) (by omega), w64 (x := n * 10 + c) (by omega) (by omega), w64 (by omega) (by omega)]; omega
          rw [e2]
          refine no h48 (no h57 (ihs _ (by omega) hlt (by omega) ?_))
          rw [Int.pow_succ]; omega
    · have e : i = l.length := by omega
      subst e; exact stop n
end
theorem rnumbered (l : List Int) (hb : byte l) (hl : l.length ≤ 1000000) : Ev (fun k => letterboxref01_Number.f k (strOfNums l)) (number l) := by
  have bad : Ev (fun k => letterboxref01_Number.j0 k (strOfNums l) true) (0, false) := st (fun k => by rw [letterboxref01_Number.j0]) (yes rfl (fin rfl))
  have good : l.length ≤ 10 → Ev (fun k => letterboxref01_Number.j0 k (strOfNums l) false) (asNum (numL l 0)) := fun h => by
    refine st (fun k => by rw [letterboxref01_Number.j0]) (no (by simp) ?_)
    exact rnumber_l0 l h hb l.length 0 0 (by omega) (by omega) (by omega) (by simp)
  have e48 : (strOfNums [48]).toList = ([48] : List UInt8) := by rw [ByteArray.toList_eq, strOfNums_data]; rfl
  have z48 : (strOfNums l).toList = ([48] : List UInt8) ↔ l = [48] := by
    constructor
    · intro h
      have h' : (strOfNums l).toList = (strOfNums [48]).toList := h.trans e48.symm
      rw [toList_iff, bytes_str l hb, bytes_str [48] (byte_one (by omega) (by omega))] at h'
      exact h'
    · rintro rfl; exact e48
  unfold letterboxref01_Number.f
  simp only [strOfNums_size, str_bt _ hb]
  by_cases h0 : l = [48]
  · rw [show number l = (0, true) by rw [h0]; decide]
    exact yes (z48.2 h0) (fin rfl)
  · refine no (fun h => h0 (z48.1 h)) ?_
    unfold number
    by_cases h1 : l = []
    · rw [if_pos (.inl (by rw [h1]; simp))]
      exact yes ((str_toList_nil l).2 h1) bad
    · have hpos : 1 ≤ l.length := by cases l with | nil => exact absurd rfl h1 | cons => simp
      refine no (fun h => h1 ((str_toList_nil l).1 h)) ?_
      by_cases h2 : l.length > 10
      · rw [if_pos (.inr (.inl h2))]; exact yes (by omega) bad
      · refine no (by omega) (yes (by omega) ?_)
        by_cases h4 : rd l 0 = 48
        · have h3 : l.length > 1 := by
            rcases l with _ | ⟨c, _ | ⟨d, t⟩⟩
            · exact absurd rfl h1
            · exact absurd (by rw [show c = 48 from h4]) h0
            · simp
          rw [if_pos (.inr (.inr ⟨h3, h4⟩)), h4]; exact bad
        · rw [if_neg (fun h => h.elim (fun h => by omega) (fun h => h.elim h2 (fun h => h4 h.2))), beq_eq_false_iff_ne.mpr h4]; exact good (by omega)
theorem rlow {c : Int} (h : 0 ≤ c ∧ c ≤ 255) : Ev (fun k => letterboxref01_Lower.f k c) (low c) :=
  evk (fun k => letterboxref01_Lower.mono c k) 40 (of_bytes (p := fun c => letterboxref01_Lower.f 40 c = some (low c)) (by decide +kernel) h)
section
variable (l : List Int) (hb : byte l) (hl : l.length ≤ 1000000)
include hb hl
theorem rfold_l0 (d : Nat) : ∀ (i : Nat) (acc : List Int), l.length - i ≤ d → i ≤ l.length → acc.length ≤ i → Ev (fun k => letterboxref01_Fold.l0 k (strOfNums l) acc (i : Int)) (strOfNums (acc ++ lows (l.drop i))) := by
  have stop : ∀ acc : List Int, Ev (fun k => letterboxref01_Fold.l0 k (strOfNums l) acc (l.length : Int)) (strOfNums (acc ++ lows (l.drop l.length))) := by
    intro acc
    refine st (fun k => by rw [letterboxref01_Fold.l0]) ?_
    simp only [strOfNums_size]
    refine no (by omega) (fin ?_)
    rw [List.drop_eq_nil_of_le (Nat.le_refl _)]; simp [lows]
  induction d with
  | zero =>
    intro i acc hd hi ha
    have e : i = l.length := by omega
    subst e; exact stop acc
  | succ d ih =>
    intro i acc hd hi ha
    rcases Nat.lt_or_ge i l.length with hlt | hge
    · have e1 : wrap64 ((i : Int) + 1) = ((i + 1 : Nat) : Int) := by rw [w64 (by omega) (by omega)]; omega
      have hx := hb _ (rd_mem l i hlt)
      have go := ih (i + 1) (acc ++ [low (rd l (i : Int))]) (by omega) hlt (by simp; omega)
      refine st (fun k => by rw [letterboxref01_Fold.l0]) ?_
      rw [drop_rd l i hlt]
      simp only [strOfNums_size, str_bt _ hb, e1]
      clear e1
      refine yes (by omega) (yes (by omega) (bnd (rlow hx) (yes (by omega) (toE go ?_))))
      simp [lows]
    · have e : i = l.length := by omega
      subst e; exact stop acc
theorem rfolded : Ev (fun k => letterboxref01_Fold.f k (strOfNums l)) (strOfNums (lows l)) := by
  have := rfold_l0 l hb hl l.length 0 [] (by omega) (by omega) (by simp)
  unfold letterboxref01_Fold.f
  simpa using this
end
end Go.Proofs.YtbjbagocnnffaaaDoor.Chars
