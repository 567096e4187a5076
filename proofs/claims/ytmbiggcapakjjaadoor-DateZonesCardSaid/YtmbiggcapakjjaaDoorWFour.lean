-- Cut by a program of this session (wip/tools/prunew.py) out of the words that the kit's print.sh laid: the theorems that this claim does not need are left out, and the notes.
import Derived.Test.YtmbiggcapakjjaaDoorWTab
namespace Go.Proofs.YtmbiggcapakjjaaDoorW.PrintLast
section
variable {P : Program} {ops : Array Oper} {Q : Exit → Act → World → Prop} {md : Region.Mode} {S : World → Prop} {ds : List Nat} {T : Bool × List (List Nat × List Nat)}
end
end Go.Proofs.YtmbiggcapakjjaaDoorW.PrintLast
