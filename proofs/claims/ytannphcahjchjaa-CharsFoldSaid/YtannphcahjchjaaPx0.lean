-- Written by a program of this session (wip/tools/mk.sh) for this claim: it runs the kit's print with contracts of our own. Lean checks it.
import Derived.Test.YtannphcahjchjaaProg
import Derived.Below
import Derived.Deep.Draws
import Derived.Deep.AppendLies
import Derived.Maps.AppendAt
import Derived.OwnWalk
import Derived.Laws.BytesArg
import Derived.Laws.MakeOwn
import Derived.Laws.OwnMore
import Derived.Deep.OwnRows
import Derived.Tactics
import Derived.Lib.ConvBytes
import Derived.Laws.Slices
import Derived.WalkKit
import Derived.KernelRfl
import Derived.RowKit3
import Derived.Deep.LoopGhost
import Derived.Deep.QuietTactic
import Derived.BigQuiet
import Derived.WideLaws
import Derived.Deep.DeepCutAuto
import Derived.Deep.CutBlock
import Derived.Deep.RegionHeld3
import Derived.Laws.Rows
import Derived.Lib.AppendStr
import Derived.ArgAppend
import Derived.Laws.IdiomCopy
import Derived.OrdersHeld
import Derived.Laws.BitsLemmas
import Derived.RowKit
import Derived.Lib.SlBytesConst
import Derived.Test.YtannphcahjchjaaAids
import Derived.Test.YtannphcahjchjaaConv
import Derived.Test.YtannphcahjchjaaWWords
import Derived.Test.YtannphcahjchjaaWLast
import Derived.Test.YtannphcahjchjaaWTab
import Derived.Test.YtannphcahjchjaaWFour
import Derived.Test.YtannphcahjchjaaWQPut
import Derived.Test.YtannphcahjchjaaWApart
import Derived.Test.YtannphcahjchjaaWArr
import Derived.Test.YtannphcahjchjaaWZeros
import Derived.Test.YtannphcahjchjaaWFoot
import Derived.Test.YtannphcahjchjaaWKept
import Derived.Test.YtannphcahjchjaaWShare
import Derived.Test.YtannphcahjchjaaWN
import Derived.Test.YtannphcahjchjaaWFootNe
import Derived.Test.YtannphcahjchjaaWAt
import Derived.Test.YtannphcahjchjaaWEqStruct
import Derived.Test.YtannphcahjchjaaWRepsOne
import Derived.Test.YtannphcahjchjaaWInv
import Derived.Test.YtannphcahjchjaaWInvWords
import Derived.Test.YtannphcahjchjaaWGuard
import Derived.Test.YtannphcahjchjaaWNEv
import Derived.Test.YtannphcahjchjaaWMore
namespace Go.Proofs.Ytannphcahjchjaa.P
open Go.RowKit Go.Proofs.YtannphcahjchjaaW.PrintWords Go.Proofs.YtannphcahjchjaaW.PrintLast Go.Proofs.YtannphcahjchjaaW.PrintMore
attribute [local go_sem] max2_int min2_int max_two min_two max_three min_three max_four min_four   -- for this text's walks alone
set_option linter.unusedVariables false
set_option linter.unusedSimpArgs false



def errW : Option Int → Value
  | none => .nilIface
  | some c => .iface 0 (.int .i64 c)
theorem errW_none : errW none = .nilIface := rfl
theorem errW_some (c : Int) : errW (some c) = .iface 0 (.int .i64 c) := rfl

theorem info5 : (Try.prog.info? 5).map (fun i => (i.zero, i.size, i.bytes)) = some (some (.int .u8 0), 1, 1) := by kernel_rfl
theorem info9 : (Try.prog.info? 9).map (fun i => (i.zero, i.size, i.bytes)) = some (some (.string ⟨#[]⟩), 1, 16) := by kernel_rfl
-- the values' own types

end Go.Proofs.Ytannphcahjchjaa.P
