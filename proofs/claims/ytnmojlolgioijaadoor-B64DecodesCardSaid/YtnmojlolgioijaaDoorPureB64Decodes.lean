/- The law B64Decodes holds of every row of bytes: the bytes of any letters are the document's, or they are broken on both sides. No condition. -/
import Derived.Test.YtnmojlolgioijaaDoorRDec
import Derived.Test.YtnmojlolgioijaaDoorPx6
set_option linter.unusedVariables false
namespace Go.Proofs.YtnmojlolgioijaaDoor.Pure
open Go.RowKit Go.Proofs.YtnmojlolgioijaaDoor.P Go.Proofs.YtnmojlolgioijaaDoorW.PrintWords Go.Proofs.YtnmojlolgioijaaDoorW.PrintLast Go.Proofs.YtnmojlolgioijaaDoor.Aids Go.Proofs.YtnmojlolgioijaaDoor.B64

theorem B64Decodes : letterboxlaw02_B64Decodes.Pure := by
  intro l _ _ h3
  have hb : byte l := byte_wf h3
  refine Ev.rounds (g := fun k => letterboxlaw02_B64Decodes.f k l) ?_
  show Ev (fun k => (letterboxlaw02_awake.f).bind _) _
  refine bs ?_
  refine yes rfl ?_
  by_cases h : (l.length : Int) > 300
  · exact yes h (fin rfl)
  · refine no h (bnd (dec_eq l hb (by omega)) (bnd (rdec_eq l hb (by omega)) ?_))
    have hfin : Ev (fun k => (b64_Bare.f k l).bind fun t174 => (letterboxref02_Bare.f k (strOfNums l)).bind fun t177 => some ((strOfNums t174).toList == t177.toList)) true :=
      bnd (bare_eq l (by omega)) (bnd (rbare_eq l hb (by omega)) (fin (by simp)))
    cases dec l with
    | none => exact yes rfl (yes rfl hfin)
    | some o => exact yes rfl (yes rfl hfin)
end Go.Proofs.YtnmojlolgioijaaDoor.Pure
