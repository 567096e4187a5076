/- The law CharsDigits holds of any number. -/
import Derived.Test.YtannphcahjchjaaDigits
import Derived.Test.YtannphcahjchjaaPx2
set_option linter.unusedVariables false
set_option linter.unusedSimpArgs false
set_option linter.unusedSectionVars false
namespace Go.Proofs.Ytannphcahjchjaa.Pure
open Go.RowKit Go.Proofs.Ytannphcahjchjaa.P Go.Proofs.YtannphcahjchjaaW.PrintWords Go.Proofs.YtannphcahjchjaaW.PrintLast Go.Proofs.Ytannphcahjchjaa.Aids Go.Proofs.Ytannphcahjchjaa.Chars
theorem CharsDigits : letterboxlaw01_CharsDigits.Pure := by
  intro a0 h0
  have hw := wf_i64 h0
  have hl := digits_len a0
  refine Ev.rounds (g := fun k => letterboxlaw01_CharsDigits.f k a0) ?_
  show Ev (fun k => (letterboxlaw01_awake.f k).bind _) _
  refine bnd awake (yes rfl (bnd (digitsS a0 hw.1 hw.2) (bnd (numbered _ (digits_byte a0) (by omega)) (bnd (rdigitsS a0 hw.1 hw.2) (yes rfl ?_)))))
  rw [number_digits a0 hw.1 hw.2]
  by_cases hn : a0 ≥ 0
  · refine yes hn ?_
    by_cases hm : a0 ≤ 4294967295
    · rw [if_pos (show 0 ≤ a0 ∧ a0 ≤ 4294967295 from ⟨hn, hm⟩)]
      exact yes (by simp [hm]) (yes rfl (fin (by simp)))
    · rw [if_neg (show ¬ (0 ≤ a0 ∧ a0 ≤ 4294967295) from fun h => hm h.2)]
      exact yes (by simp [hm]) (no (by simp) (fin rfl))
  · rw [if_neg (show ¬ (0 ≤ a0 ∧ a0 ≤ 4294967295) from fun h => hn h.1)]
    exact no hn (yes rfl (no (by simp) (fin rfl)))
end Go.Proofs.Ytannphcahjchjaa.Pure
