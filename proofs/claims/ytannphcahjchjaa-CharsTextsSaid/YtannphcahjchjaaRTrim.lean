/- The document's trimming, told by the same words. -/
import Derived.Test.YtannphcahjchjaaTrim
set_option linter.unusedVariables false
set_option linter.unusedSimpArgs false
set_option linter.unusedSectionVars false
namespace Go.Proofs.Ytannphcahjchjaa.Chars
open Go.RowKit Go.Proofs.Ytannphcahjchjaa.P Go.Proofs.YtannphcahjchjaaW.PrintWords Go.Proofs.YtannphcahjchjaaW.PrintLast Go.Proofs.Ytannphcahjchjaa.Aids
section
variable (l : List Int) (hb : byte l) (hl : l.length ≤ 1000000)
include hb hl
theorem rtrim_l1 (d : Nat) : ∀ (i j : Nat), j - i ≤ d → i ≤ j → j ≤ l.length → Ev (fun k => letterboxref01_Trim.l1 k (strOfNums l) (i : Int) (j : Int)) (strOfNums (trimE ((l.take j).drop i))) := by
  have stop : ∀ (j : Nat), j ≤ l.length → Ev (fun k => letterboxref01_Trim.l1 k (strOfNums l) (j : Int) (j : Int)) (strOfNums (trimE ((l.take j).drop j))) := by
    intro j hj
    refine st (fun k => by rw [letterboxref01_Trim.l1]) ?_
    simp only [strOfNums_size, str_extract, Int.toNat_natCast]
    refine no (by omega) (yes (by omega) (yes (by omega) (yes (by omega) (fin ?_))))
    rw [show (l.take j).drop j = [] from List.drop_eq_nil_of_le (by simp; omega)]; rfl
  induction d with
  | zero =>
    intro i j hd hi hj
    have e : i = j := by omega
    subst e; exact stop i hj
  | succ d ih =>
    intro i j hd hi hj
    rcases Nat.lt_or_ge i j with hlt | hge
    · obtain ⟨m, rfl⟩ : ∃ m, j = m + 1 := ⟨j - 1, by omega⟩
      have e1 : wrap64 (((m + 1 : Nat) : Int) - 1) = (m : Int) := by rw [w64 (by omega) (by omega)]; omega
      have es : (l.take (m + 1)).drop i = (l.take m).drop i ++ [rd l (m : Int)] := by
        rw [rd_at _ m (by omega), List.take_succ_eq_append_getElem (by omega), List.drop_append_of_le_length (by simp; omega)]
      have go := ih i m (by omega) (by omega) (by omega)
      refine st (fun k => by rw [letterboxref01_Trim.l1]) ?_
      rw [e1]
      clear e1
      simp only [strOfNums_size, str_bt _ hb, str_extract, Int.toNat_natCast]
      rw [es, trimE_snoc]
      generalize rd l (m : Int) = c at go es ⊢
      refine yes (by omega) (yes (by omega) (yes (by omega) ?_))
      by_cases h1 : c = 32
      · rw [if_pos (show isBl c from Or.inl h1)]; exact yes h1 go
      · by_cases h2 : c = 9
        · rw [if_pos (show isBl c from Or.inr h2)]; exact no h1 (yes h2 go)
        · rw [if_neg (show ¬ isBl c from fun h => h.elim h1 h2)]
          exact no h1 (no h2 (yes (by omega) (yes (by omega) (yes (by omega) (fin rfl)))))
    · have e : i = j := by omega
      subst e; exact stop i hj
theorem rtrim_l0 (d : Nat) : ∀ (i : Nat), l.length - i ≤ d → i ≤ l.length → Ev (fun k => letterboxref01_Trim.l0 k (strOfNums l) (i : Int) (l.length : Int)) (strOfNums (trim (l.drop i))) := by
  have pass : ∀ i, i ≤ l.length → Ev (fun k => letterboxref01_Trim.j1 k (strOfNums l) (i : Int) (l.length : Int)) (strOfNums (trimE (l.drop i))) := by
    intro i hi
    refine st (fun k => by rw [letterboxref01_Trim.j1]) ?_
    have := rtrim_l1 l hb hl l.length i l.length (by omega) hi (Nat.le_refl _)
    rwa [List.take_of_length_le (Nat.le_refl _)] at this
  have stop : Ev (fun k => letterboxref01_Trim.l0 k (strOfNums l) (l.length : Int) (l.length : Int)) (strOfNums (trim (l.drop l.length))) := by
    have := pass l.length (Nat.le_refl _)
    refine st (fun k => by rw [letterboxref01_Trim.l0]) (no (by omega) ?_)
    rw [List.drop_eq_nil_of_le (Nat.le_refl _)] at this ⊢
    exact this
  induction d with
  | zero =>
    intro i hd hi
    have e : i = l.length := by omega
    subst e; exact stop
  | succ d ih =>
    intro i hd hi
    rcases Nat.lt_or_ge i l.length with hlt | hge
    · have e1 : wrap64 ((i : Int) + 1) = ((i + 1 : Nat) : Int) := by rw [w64 (by omega) (by omega)]; omega
      have go := ih (i + 1) (by omega) hlt
      have ps := pass i hi
      refine st (fun k => by rw [letterboxref01_Trim.l0]) ?_
      rw [e1]
      clear e1
      simp only [strOfNums_size, str_bt _ hb]
      rw [drop_rd l i hlt] at ps ⊢
      unfold trim at go ⊢
      rw [trimF]
      generalize rd l (i : Int) = c at ps ⊢
      refine yes (by omega) (yes (by omega) (yes (by omega) ?_))
      by_cases h1 : c = 32
      · rw [if_pos (show isBl c from Or.inl h1)]; exact yes h1 go
      · by_cases h2 : c = 9
        · rw [if_pos (show isBl c from Or.inr h2)]; exact no h1 (yes h2 go)
        · rw [if_neg (show ¬ isBl c from fun h => h.elim h1 h2)]
          exact no h1 (no h2 ps)
    · have e : i = l.length := by omega
      subst e; exact stop
theorem rtrimS : Ev (fun k => letterboxref01_Trim.f k (strOfNums l)) (strOfNums (trim l)) := by
  have := rtrim_l0 l hb hl l.length 0 (by omega) (by omega)
  unfold letterboxref01_Trim.f
  rw [strOfNums_size]
  simpa using this
end
end Go.Proofs.Ytannphcahjchjaa.Chars
