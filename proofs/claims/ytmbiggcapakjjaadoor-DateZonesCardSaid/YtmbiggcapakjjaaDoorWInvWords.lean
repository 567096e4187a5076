-- Cut by a program of this session (wip/tools/prunew.py) out of the words that the kit's print.sh laid: the theorems that this claim does not need are left out, and the notes.
import Derived.Test.YtmbiggcapakjjaaDoorWInv
import Derived.Test.YtmbiggcapakjjaaDoorWFootNe
namespace Go.Proofs.YtmbiggcapakjjaaDoorW.PrintWords
open Go.RowKit
end Go.Proofs.YtmbiggcapakjjaaDoorW.PrintWords
namespace Go.Proofs.YtmbiggcapakjjaaDoorW.PrintLast
section
variable {ops : Array Oper} {a : Act} {o og : Oper} {g : Nat} {t : Tmp} {u : Bool}
end
end Go.Proofs.YtmbiggcapakjjaaDoorW.PrintLast
