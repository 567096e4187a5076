/- The law QpDecodes holds of every row of bytes: the bytes of any text are the document's, or it is broken on both sides. No condition. -/
import Derived.Test.YtcnbkblnchechaaRDec
import Derived.Test.YtcnbkblnchechaaPx7
set_option linter.unusedVariables false
namespace Go.Proofs.Ytcnbkblnchechaa.Pure
open Go.RowKit Go.Proofs.Ytcnbkblnchechaa.P Go.Proofs.YtcnbkblnchechaaW.PrintWords Go.Proofs.YtcnbkblnchechaaW.PrintLast Go.Proofs.Ytcnbkblnchechaa.Aids Go.Proofs.Ytcnbkblnchechaa.Qp

theorem QpDecodes : letterboxlaw03_QpDecodes.Pure := by
  intro b _ _ h3
  have hb : byte b := fun y hy => wf_u8 (h3 y hy)
  refine Ev.rounds (g := fun k => letterboxlaw03_QpDecodes.f k b) ?_
  show Ev (fun k => (letterboxlaw03_awake.f).bind _) _
  refine bs ?_
  refine yes rfl ?_
  by_cases h : (b.length : Int) > 400
  · exact yes h (fin rfl)
  · refine no h (bnd (dec_eq b (by omega) hb) (bnd (rdec_eq b (by omega) hb) ?_))
    cases decS b with
    | none => exact yes rfl (fin rfl)
    | some o => exact yes rfl (fin (by simp [told, toldB]))
end Go.Proofs.Ytcnbkblnchechaa.Pure
