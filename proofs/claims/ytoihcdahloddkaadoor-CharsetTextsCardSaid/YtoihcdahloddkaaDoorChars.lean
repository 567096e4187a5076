/- The place where the plain laws of this chapter begin. -/
import Derived.Test.YtoihcdahloddkaaDoorEvs
import Derived.Test.YtoihcdahloddkaaDoorPxA
set_option linter.unusedVariables false
set_option linter.unusedSimpArgs false
set_option linter.unusedSectionVars false
namespace Go.Proofs.YtoihcdahloddkaaDoor.Chars
open Go.RowKit Go.Proofs.YtoihcdahloddkaaDoor.P Go.Proofs.YtoihcdahloddkaaDoorW.PrintWords Go.Proofs.YtoihcdahloddkaaDoorW.PrintLast Go.Proofs.YtoihcdahloddkaaDoor.Aids
end Go.Proofs.YtoihcdahloddkaaDoor.Chars
