-- Written by a program of this session (wip/tools/mk.sh) for this claim: it runs the kit's print with contracts of our own. Lean checks it.
import Derived.Test.YtoihcdahloddkaaDoorProg
import Derived.Below
import Derived.Deep.Draws
import Derived.Deep.AppendLies
import Derived.Maps.AppendAt
import Derived.OwnWalk
import Derived.Laws.BytesArg
import Derived.Laws.MakeOwn
import Derived.Laws.OwnMore
import Derived.Deep.OwnRows
import Derived.Tactics
import Derived.Lib.ConvBytes
import Derived.Laws.Slices
import Derived.WalkKit
import Derived.KernelRfl
import Derived.RowKit3
import Derived.Deep.LoopGhost
import Derived.Deep.QuietTactic
import Derived.BigQuiet
import Derived.WideLaws
import Derived.Deep.DeepCutAuto
import Derived.Deep.CutBlock
import Derived.Deep.RegionHeld3
import Derived.Laws.Rows
import Derived.Lib.AppendStr
import Derived.ArgAppend
import Derived.Laws.IdiomCopy
import Derived.OrdersHeld
import Derived.Laws.BitsLemmas
import Derived.RowKit
import Derived.Lib.SlBytesConst
import Derived.Test.YtoihcdahloddkaaDoorAids
import Derived.Test.YtoihcdahloddkaaDoorConv
import Derived.Test.YtoihcdahloddkaaDoorWWords
import Derived.Test.YtoihcdahloddkaaDoorWLast
import Derived.Test.YtoihcdahloddkaaDoorWTab
import Derived.Test.YtoihcdahloddkaaDoorWFour
import Derived.Test.YtoihcdahloddkaaDoorWQPut
import Derived.Test.YtoihcdahloddkaaDoorWApart
import Derived.Test.YtoihcdahloddkaaDoorWArr
import Derived.Test.YtoihcdahloddkaaDoorWZeros
import Derived.Test.YtoihcdahloddkaaDoorWFoot
import Derived.Test.YtoihcdahloddkaaDoorWKept
import Derived.Test.YtoihcdahloddkaaDoorWShare
import Derived.Test.YtoihcdahloddkaaDoorWN
import Derived.Test.YtoihcdahloddkaaDoorWFootNe
import Derived.Test.YtoihcdahloddkaaDoorWAt
import Derived.Test.YtoihcdahloddkaaDoorWEqStruct
import Derived.Test.YtoihcdahloddkaaDoorWRepsOne
import Derived.Test.YtoihcdahloddkaaDoorWInv
import Derived.Test.YtoihcdahloddkaaDoorWInvWords
import Derived.Test.YtoihcdahloddkaaDoorWGuard
import Derived.Test.YtoihcdahloddkaaDoorWNEv
import Derived.Test.YtoihcdahloddkaaDoorWMore
namespace Go.Proofs.YtoihcdahloddkaaDoor.P
open Go.RowKit Go.Proofs.YtoihcdahloddkaaDoorW.PrintWords Go.Proofs.YtoihcdahloddkaaDoorW.PrintLast Go.Proofs.YtoihcdahloddkaaDoorW.PrintMore
attribute [-simp] Int.tmod_tmod_of_dvd
attribute [local go_sem] max2_int min2_int max_two min_two max_three min_three max_four min_four   -- for this text's walks alone
set_option linter.unusedVariables false
set_option linter.unusedSimpArgs false



def errW : Option Int → Value
  | none => .nilIface
  | some c => .iface 0 (.int .i64 c)
theorem errW_none : errW none = .nilIface := rfl
theorem errW_some (c : Int) : errW (some c) = .iface 0 (.int .i64 c) := rfl

theorem info5 : (Tryd.prog.info? 5).map (fun i => (i.zero, i.size, i.bytes)) = some (some (.int .u8 0), 1, 1) := by kernel_rfl
-- the values' own types

end Go.Proofs.YtoihcdahloddkaaDoor.P
