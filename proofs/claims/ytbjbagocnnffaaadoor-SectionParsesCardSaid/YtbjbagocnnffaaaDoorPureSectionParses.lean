/- The law SectionParses holds: the program's spec of any text of at most 300 bytes is the document's, or both tell that there is none. -/
import Derived.Test.YtbjbagocnnffaaaDoorSecB
import Derived.Test.YtbjbagocnnffaaaDoorPx17
set_option linter.unusedVariables false
namespace Go.Proofs.YtbjbagocnnffaaaDoor.Pure
open Go.RowKit Go.Proofs.YtbjbagocnnffaaaDoor.P Go.Proofs.YtbjbagocnnffaaaDoorW.PrintWords Go.Proofs.YtbjbagocnnffaaaDoorW.PrintLast Go.Proofs.YtbjbagocnnffaaaDoor.Aids Go.Proofs.YtbjbagocnnffaaaDoor.Chars Go.Proofs.YtbjbagocnnffaaaDoor.Sec
theorem out_lens (o : Option Sp) : (outL o).1.length ≤ 1000000 ∧ (outL o).2.2.1.length ≤ 1000000 := by
  cases o with
  | none => exact ⟨by decide, by decide⟩
  | some x =>
    have eo : outL (some x) = if may x = true then (x.p, x.q, strs x.nm, x.cut, x.fr, x.mn, 0) else sec_none := rfl
    by_cases hm : may x = true
    · rw [eo, if_pos hm]
      rw [may_is] at hm
      unfold headB at hm
      simp only [Bool.and_eq_true, decide_eq_true_eq] at hm
      refine ⟨by have := hm.1.1.1.1.1; simp only; omega, ?_⟩
      have h2 := hm.1.2
      have e : (strs x.nm).length = x.nm.length := by unfold strs; rw [List.length_map]
      simp only [e]
      split at h2
      · simp only [Bool.and_eq_true, decide_eq_true_eq] at h2; omega
      · simp only [decide_eq_true_eq] at h2; omega
    · rw [eo, if_neg hm]; exact ⟨by decide, by decide⟩
theorem SectionParses : letterboxlaw15_SectionParses.Pure := by
  intro a0 h0
  refine Ev.rounds ?_
  unfold letterboxlaw15_SectionParses.f
  refine bnd awake (yes rfl ?_)
  by_cases hs : (a0.size : Int) > 300
  · exact yes hs (fin rfl)
  · refine no hs ?_
    have hb := byte_bytes a0
    have hl : (bytesOf a0).length ≤ 900 := by rw [size_bytes]; omega
    have e1 := parse_ok hb (show (bytesOf a0).length ≤ 90000 by omega)
    have e2 := rparse_ok hb hl
    rw [← out_same] at e2
    rw [str_bytes] at e1 e2
    have hls := out_lens (parseL (bytesOf a0))
    generalize outL (parseL (bytesOf a0)) = o at e1 e2 hls
    refine bnd e1 (bnd e2 (yes rfl ?_))
    unfold letterboxlaw15_specOf.f
    exact bs (bnd (same_ok _ _ _ _ _ _ hls.1 hls.2) (fin rfl))
end Go.Proofs.YtbjbagocnnffaaaDoor.Pure
