-- Cut by a program of this session (wip/tools/prunew.py) out of the words that the kit's print.sh laid: the theorems that this claim does not need are left out, and the notes.
import Derived.Test.YtmbiggcapakjjaaDoorWWords
import Derived.Test.YtmbiggcapakjjaaDoorWLast
namespace Go.Proofs.YtmbiggcapakjjaaDoorW.PrintWords
open Go.RowKit
namespace Kd
section
variable {α : Type} {d : Kd α} {e base g o n cap : Nat} {ok okp : Nat → Prop} {w W : World} {v : Value} {xs : List α}
end
section
variable {α : Type} {enc : α → Value} {h1 : ∀ x, (enc x).oneCell' = true} {e base g o n cap : Nat} {ok : Nat → Prop} {W : World} {xs : List α}
end
end Kd
end Go.Proofs.YtmbiggcapakjjaaDoorW.PrintWords
