/- CharsetTexts: any bytes of any charset as a text, and any text's bytes, are the document's, or refused; for every name of at most 50 bytes and every row of at most 300 bytes (longer ones: the law answers true at once). -/
import Derived.Test.YtoihcdahloddkaaDoorPx5
import Derived.Test.YtoihcdahloddkaaDoorAwk
import Derived.Test.YtoihcdahloddkaaDoorRef
set_option linter.unusedVariables false
set_option linter.unusedSimpArgs false
namespace Go.Proofs.YtoihcdahloddkaaDoor.Pure
open Go.RowKit Go.Proofs.YtoihcdahloddkaaDoor.P Go.Proofs.YtoihcdahloddkaaDoor.Utf Go.Proofs.YtoihcdahloddkaaDoor.Cs Go.Proofs.YtoihcdahloddkaaDoor.Ref Go.Proofs.YtoihcdahloddkaaDoorW.PrintWords Go.Proofs.YtoihcdahloddkaaDoorW.PrintLast Go.Proofs.YtoihcdahloddkaaDoor.Aids
theorem known_f (n : ByteArray) (hn : n.size ≤ 9223372036854775807) : charset_Known.f n = some (cs_kind (cs_fold n) != 0) := if_pos hn
theorem CharsetTexts : letterboxlaw08_CharsetTexts.Pure := by
  intro a0 l1 h0 hm h1 hw
  have hb : byte l1 := byte_wf hw
  refine Ev.rounds (g := fun k => letterboxlaw08_CharsetTexts.f k a0 l1) ?_
  unfold letterboxlaw08_CharsetTexts.f
  rw [awake]
  refine bs (yes rfl ?_)
  by_cases hl : (l1.length : Int) > 300
  · refine yes hl (st (fun k => by rw [letterboxlaw08_CharsetTexts.j0]) ?_)
    exact yes rfl (fin rfl)
  refine no hl (st (fun k => by rw [letterboxlaw08_CharsetTexts.j0]) ?_)
  by_cases hn : (a0.size : Int) > 50
  · exact yes (decide_eq_true hn) (fin rfl)
  refine no (by simpa using hn) ?_
  have hs : (strOfNums l1).size = l1.length := strOfNums_size l1
  rw [text_f a0 l1 h0 (by omega) hb, bytes_f a0 _ h0 (by omega), known_f a0 (by omega)]
  have t1 := rtext a0 (strOfNums l1) (by omega) (by omega)
  have t2 := rbytes a0 (strOfNums l1) (by omega) (by omega)
  have t3 := rknown a0 (by omega)
  rw [bytes_str l1 hb] at t1
  refine bs ?_
  refine bnd t1 ?_
  refine bs ?_
  refine bnd t2 ?_
  dsimp only
  simp only [if_true]
  refine bs ?_
  refine bnd t3 ?_
  exact fin (by simp)
end Go.Proofs.YtoihcdahloddkaaDoor.Pure
