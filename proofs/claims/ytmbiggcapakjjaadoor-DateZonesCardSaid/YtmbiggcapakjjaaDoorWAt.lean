-- Cut by a program of this session (wip/tools/prunew.py) out of the words that the kit's print.sh laid: the theorems that this claim does not need are left out, and the notes.
import Derived.Test.YtmbiggcapakjjaaDoorWFootNe
namespace Go.Proofs.YtmbiggcapakjjaaDoorW.PrintWords
open Go.RowKit
section
variable {w w' u : World} {m B g : Nat} {o : Obj} {row : Option Nat} {S : Nat → Prop} {a : Addr} {v : Value}
end
namespace Kd
section
variable {α : Type} {d : Kd α} {e base n m : Nat} {ok : Nat → Prop} {w w' : World} {v : Value} {A : Option Addr} {xs : List α}
end
end Kd
end Go.Proofs.YtmbiggcapakjjaaDoorW.PrintWords
