/- Plain laws of bytes and short texts: what the printed functions of this chapter tell. -/
import Derived.Test.YtannphcahjchjaaEvs
import Derived.Test.YtannphcahjchjaaPx2
import Derived.Test.YtannphcahjchjaaPx3
set_option linter.unusedVariables false
set_option linter.unusedSimpArgs false
set_option linter.unusedSectionVars false
namespace Go.Proofs.Ytannphcahjchjaa.Chars
open Go.RowKit Go.Proofs.Ytannphcahjchjaa.P Go.Proofs.YtannphcahjchjaaW.PrintWords Go.Proofs.YtannphcahjchjaaW.PrintLast Go.Proofs.Ytannphcahjchjaa.Aids
theorem awake : Ev (fun k => letterboxlaw01_awake.f k) true := evk (fun k => letterboxlaw01_awake.mono k) 40 (by decide +kernel)
end Go.Proofs.Ytannphcahjchjaa.Chars
