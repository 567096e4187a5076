/- The law B64Encodes holds of every row of bytes and every width: its letters, in lines of that width, are the document's. No condition. -/
import Derived.Test.YtnmojlolgioijaaDoorREnc
import Derived.Test.YtnmojlolgioijaaDoorPx3
set_option linter.unusedVariables false
namespace Go.Proofs.YtnmojlolgioijaaDoor.Pure
open Go.RowKit Go.Proofs.YtnmojlolgioijaaDoor.P Go.Proofs.YtnmojlolgioijaaDoorW.PrintWords Go.Proofs.YtnmojlolgioijaaDoorW.PrintLast Go.Proofs.YtnmojlolgioijaaDoor.Aids Go.Proofs.YtnmojlolgioijaaDoor.B64

theorem B64Encodes : letterboxlaw02_B64Encodes.Pure := by
  intro l w _ _ h3 h4
  have hb : byte l := byte_wf h3
  have hw := wf_i64 h4
  refine Ev.rounds (g := fun k => letterboxlaw02_B64Encodes.f k l w) ?_
  show Ev (fun k => (letterboxlaw02_awake.f).bind _) _
  refine bs ?_
  refine yes rfl ?_
  by_cases h : (l.length : Int) > 300
  · exact yes h (fin rfl)
  · refine no h ?_
    rw [enc_eq l w hb (by omega) hw.2]
    exact bs (bnd (renc_eq l w hb (by omega) hw.2) (fin (by simp)))
end Go.Proofs.YtnmojlolgioijaaDoor.Pure
