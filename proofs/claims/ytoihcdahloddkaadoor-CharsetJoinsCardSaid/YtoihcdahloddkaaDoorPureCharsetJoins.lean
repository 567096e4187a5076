/- CharsetJoins: a text of two rows of bytes is the two texts, if both go; for every name of at most 50 bytes and rows of at most 200 bytes (longer ones: the law answers true at once). -/
import Derived.Test.YtoihcdahloddkaaDoorPx6
import Derived.Test.YtoihcdahloddkaaDoorAwk
set_option linter.unusedVariables false
set_option linter.unusedSimpArgs false
namespace Go.Proofs.YtoihcdahloddkaaDoor.Pure
open Go.RowKit Go.Proofs.YtoihcdahloddkaaDoor.P Go.Proofs.YtoihcdahloddkaaDoor.Utf Go.Proofs.YtoihcdahloddkaaDoor.Cs Go.Proofs.YtoihcdahloddkaaDoorW.PrintWords Go.Proofs.YtoihcdahloddkaaDoorW.PrintLast Go.Proofs.YtoihcdahloddkaaDoor.Aids
theorem nil_list : (⟨#[]⟩ : ByteArray).toList = [] := by rw [ByteArray.toList_eq]
theorem CharsetJoins : letterboxlaw08_CharsetJoins.Pure := by
  intro a0 l1 l2 h0 hm1 h1 hw1 hm2 h2 hw2
  have hb1 : byte l1 := byte_wf hw1
  have hb2 : byte l2 := byte_wf hw2
  refine Ev.rounds (g := fun k => letterboxlaw08_CharsetJoins.f k a0 l1 l2) ?_
  unfold letterboxlaw08_CharsetJoins.f
  rw [awake]
  refine bs (yes rfl ?_)
  by_cases hl : (l1.length : Int) > 200
  · refine yes hl (st (fun k => by rw [letterboxlaw08_CharsetJoins.j0]) ?_)
    exact yes rfl (fin rfl)
  refine no hl ?_
  by_cases hl2 : (l2.length : Int) > 200
  · refine yes hl2 (st (fun k => by rw [letterboxlaw08_CharsetJoins.j0]) ?_)
    exact yes rfl (fin rfl)
  refine no hl2 (st (fun k => by rw [letterboxlaw08_CharsetJoins.j0]) ?_)
  by_cases hn : (a0.size : Int) > 50
  · exact yes (decide_eq_true hn) (fin rfl)
  refine no (by simpa using hn) ?_
  have k4 := cs_kind4 (cs_fold a0)
  have hT := fun b hb h => text_f a0 b h0 h hb
  generalize cs_kind (cs_fold a0) = k at *
  have k4' : k = 0 ∨ k = 1 ∨ k = 2 ∨ k = 3 := k4
  rw [hT l1 hb1 (by omega), hT l2 hb2 (by omega)]
  refine bs (bs (yes (by simp; omega) (bs (yes (by simp; omega) ?_))))
  rw [List.nil_append, hT _ (byte_append hb1 hb2) (by rw [List.length_append]; omega)]
  refine bs ?_
  have s1 := textv_size k l1
  have s2 := textv_size k l2
  rcases textv_code k l1 with c1 | ⟨c1, d1⟩
  · refine yes c1 ?_
    rcases textv_code k l2 with c2 | ⟨c2, d2⟩
    · have e := joins k4' l1 l2 hb1 hb2 c1 c2
      rw [e]
      refine yes c2 (yes rfl (yes (by omega) (fin ?_)))
      simp
    · refine no (by rw [c2]; decide) (no (by rw [c1]; decide) (yes c2 (fin ?_)))
      rw [d2, nil_list]; rfl
  · refine no (by rw [c1]; decide) (yes c1 (yes (by rw [d1]; exact nil_list) (fin rfl)))
end Go.Proofs.YtoihcdahloddkaaDoor.Pure
