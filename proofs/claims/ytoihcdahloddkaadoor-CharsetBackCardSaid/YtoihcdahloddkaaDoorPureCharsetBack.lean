/- CharsetBack: what is a text is the same bytes again, and the other way round; for every name of at most 50 bytes and every row of at most 300 bytes (longer ones: the law answers true at once). -/
import Derived.Test.YtoihcdahloddkaaDoorPx5
import Derived.Test.YtoihcdahloddkaaDoorAwk
set_option linter.unusedVariables false
set_option linter.unusedSimpArgs false
namespace Go.Proofs.YtoihcdahloddkaaDoor.Pure
open Go.RowKit Go.Proofs.YtoihcdahloddkaaDoor.P Go.Proofs.YtoihcdahloddkaaDoor.Utf Go.Proofs.YtoihcdahloddkaaDoor.Cs Go.Proofs.YtoihcdahloddkaaDoorW.PrintWords Go.Proofs.YtoihcdahloddkaaDoorW.PrintLast Go.Proofs.YtoihcdahloddkaaDoor.Aids
theorem CharsetBack : letterboxlaw08_CharsetBack.Pure := by
  intro a0 l1 h0 hm h1 hw
  have hb : byte l1 := byte_wf hw
  refine Ev.rounds (g := fun k => letterboxlaw08_CharsetBack.f k a0 l1) ?_
  unfold letterboxlaw08_CharsetBack.f
  rw [awake]
  refine bs (yes rfl ?_)
  by_cases hl : (l1.length : Int) > 300
  · refine yes hl (st (fun k => by rw [letterboxlaw08_CharsetBack.j0]) ?_)
    exact yes rfl (fin rfl)
  refine no hl (st (fun k => by rw [letterboxlaw08_CharsetBack.j0]) ?_)
  by_cases hn : (a0.size : Int) > 50
  · exact yes (decide_eq_true hn) (fin rfl)
  refine no (by simpa using hn) ?_
  have k4 := cs_kind4 (cs_fold a0)
  have hT := fun b hb h => text_f a0 b h0 h hb
  have hB := fun s h => bytes_f a0 s h0 h
  generalize cs_kind (cs_fold a0) = k at *
  have k4' : k = 0 ∨ k = 1 ∨ k = 2 ∨ k = 3 := k4
  have hs : (strOfNums l1).size = l1.length := strOfNums_size l1
  have hj1 : Ev (fun n => letterboxlaw08_CharsetBack.j1 n a0 l1) true := by
    refine st (fun n => by rw [letterboxlaw08_CharsetBack.j1]) ?_
    rw [hB _ (by omega)]
    refine bs ?_
    by_cases hz : (cs_bytv k (strOfNums l1)).2 = 0
    · obtain ⟨e1, e2, e3⟩ := back2 k4' _ hz
      refine yes hz ?_
      rw [hT _ e2 (by omega), e1]
      exact bs (yes rfl (yes rfl (fin rfl)))
    · exact no hz (fin rfl)
  rw [hT l1 hb (by omega)]
  refine bs ?_
  by_cases hz : (cs_textv k l1).2 = 0
  · have e1 := back1 k4' l1 hb hz
    have e2 := textv_size k l1
    refine yes hz ?_
    rw [hB _ (by omega), e1]
    exact bs (yes rfl (yes rfl hj1))
  · exact no hz hj1
end Go.Proofs.YtoihcdahloddkaaDoor.Pure
