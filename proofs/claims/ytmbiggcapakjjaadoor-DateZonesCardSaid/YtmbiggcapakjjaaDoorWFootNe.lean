-- Cut by a program of this session (wip/tools/prunew.py) out of the words that the kit's print.sh laid: the theorems that this claim does not need are left out, and the notes.
import Derived.Test.YtmbiggcapakjjaaDoorWN
namespace Go.Proofs.YtmbiggcapakjjaaDoorW.PrintWords
open Go.RowKit
namespace Kd
section
variable {α : Type} {d : Kd α} {W : World} {g n : Nat} {S ok : Nat → Prop} {A : Option Addr} {ad : Addr} {xs : List α}
end
end Kd
end Go.Proofs.YtmbiggcapakjjaaDoorW.PrintWords
