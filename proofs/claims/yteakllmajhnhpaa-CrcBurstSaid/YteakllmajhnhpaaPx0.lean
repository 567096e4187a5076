-- Written by a program of this session (wip/tools/mk.sh) for this claim: it runs the kit's print with contracts of our own. Lean checks it.
import Derived.Test.YteakllmajhnhpaaProg
import Derived.Below
import Derived.Deep.Draws
import Derived.Deep.AppendLies
import Derived.Maps.AppendAt
import Derived.OwnWalk
import Derived.Laws.BytesArg
import Derived.Laws.MakeOwn
import Derived.Laws.OwnMore
import Derived.Deep.OwnRows
import Derived.Tactics
import Derived.Lib.ConvBytes
import Derived.Laws.Slices
import Derived.WalkKit
import Derived.KernelRfl
import Derived.RowKit3
import Derived.Deep.LoopGhost
import Derived.Deep.QuietTactic
import Derived.BigQuiet
import Derived.WideLaws
import Derived.Deep.DeepCutAuto
import Derived.Deep.CutBlock
import Derived.Deep.RegionHeld3
import Derived.Laws.Rows
import Derived.Lib.AppendStr
import Derived.ArgAppend
import Derived.Laws.IdiomCopy
import Derived.OrdersHeld
import Derived.Laws.BitsLemmas
import Derived.RowKit
import Derived.Lib.SlBytesConst
import Derived.Test.YteakllmajhnhpaaWWords
import Derived.Test.YteakllmajhnhpaaWLast
import Derived.Test.YteakllmajhnhpaaWTab
import Derived.Test.YteakllmajhnhpaaWFour
import Derived.Test.YteakllmajhnhpaaWQPut
import Derived.Test.YteakllmajhnhpaaWApart
import Derived.Test.YteakllmajhnhpaaWArr
import Derived.Test.YteakllmajhnhpaaWZeros
import Derived.Test.YteakllmajhnhpaaWFoot
import Derived.Test.YteakllmajhnhpaaWKept
import Derived.Test.YteakllmajhnhpaaWShare
import Derived.Test.YteakllmajhnhpaaWN
import Derived.Test.YteakllmajhnhpaaWFootNe
import Derived.Test.YteakllmajhnhpaaWAt
import Derived.Test.YteakllmajhnhpaaWEqStruct
import Derived.Test.YteakllmajhnhpaaWRepsOne
import Derived.Test.YteakllmajhnhpaaWInv
import Derived.Test.YteakllmajhnhpaaWInvWords
import Derived.Test.YteakllmajhnhpaaWGuard
import Derived.Test.YteakllmajhnhpaaWNEv
import Derived.Test.YteakllmajhnhpaaWMore
namespace Go.Proofs.Yteakllmajhnhpaa.P
open Go.RowKit Go.Proofs.YteakllmajhnhpaaW.PrintWords Go.Proofs.YteakllmajhnhpaaW.PrintLast Go.Proofs.YteakllmajhnhpaaW.PrintMore
attribute [local go_sem] max2_int min2_int max_two min_two max_three min_three max_four min_four   -- for this text's walks alone
set_option linter.unusedVariables false
set_option linter.unusedSimpArgs false



def errW : Option Int → Value
  | none => .nilIface
  | some c => .iface 0 (.int .i64 c)
theorem errW_none : errW none = .nilIface := rfl
theorem errW_some (c : Int) : errW (some c) = .iface 0 (.int .i64 c) := rfl

theorem info5 : (Try.prog.info? 5).map (fun i => (i.zero, i.size, i.bytes)) = some (some (.int .u8 0), 1, 1) := by kernel_rfl
-- the values' own types

end Go.Proofs.Yteakllmajhnhpaa.P
