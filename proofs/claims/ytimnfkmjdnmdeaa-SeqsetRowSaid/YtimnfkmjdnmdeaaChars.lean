/- The document's example, and the place where the laws of bytes and texts of this chapter begin. -/
import Derived.Test.YtimnfkmjdnmdeaaEvs
import Derived.Test.YtimnfkmjdnmdeaaPx3
set_option linter.unusedVariables false
set_option linter.unusedSimpArgs false
set_option linter.unusedSectionVars false
namespace Go.Proofs.Ytimnfkmjdnmdeaa.Chars
open Go.RowKit Go.Proofs.Ytimnfkmjdnmdeaa.P Go.Proofs.YtimnfkmjdnmdeaaW.PrintWords Go.Proofs.YtimnfkmjdnmdeaaW.PrintLast Go.Proofs.Ytimnfkmjdnmdeaa.Aids
theorem awake : Ev (fun k => letterboxlaw21_awake.f k) true := evk (fun k => letterboxlaw21_awake.mono k) 40 (by decide +kernel)
end Go.Proofs.Ytimnfkmjdnmdeaa.Chars
