-- Written by a program of this session (wip/tools/mk.sh) for this claim: it runs the kit's print with contracts of our own. Lean checks it.
import Derived.Test.YtbjbagocnnffaaaDoorProg
import Derived.Below
import Derived.Deep.Draws
import Derived.Deep.AppendLies
import Derived.Maps.AppendAt
import Derived.OwnWalk
import Derived.Laws.BytesArg
import Derived.Laws.MakeOwn
import Derived.Laws.OwnMore
import Derived.Deep.OwnRows
import Derived.Tactics
import Derived.Lib.ConvBytes
import Derived.Laws.Slices
import Derived.WalkKit
import Derived.KernelRfl
import Derived.RowKit3
import Derived.Deep.LoopGhost
import Derived.Deep.QuietTactic
import Derived.BigQuiet
import Derived.WideLaws
import Derived.Deep.DeepCutAuto
import Derived.Deep.CutBlock
import Derived.Deep.RegionHeld3
import Derived.Laws.Rows
import Derived.Lib.AppendStr
import Derived.ArgAppend
import Derived.Laws.IdiomCopy
import Derived.OrdersHeld
import Derived.Laws.BitsLemmas
import Derived.RowKit
import Derived.Lib.SlBytesConst
import Derived.Test.YtbjbagocnnffaaaDoorAids
import Derived.Test.YtbjbagocnnffaaaDoorConv
import Derived.Test.YtbjbagocnnffaaaDoorWWords
import Derived.Test.YtbjbagocnnffaaaDoorWLast
import Derived.Test.YtbjbagocnnffaaaDoorWQPut
import Derived.Test.YtbjbagocnnffaaaDoorWApart
import Derived.Test.YtbjbagocnnffaaaDoorWArr
import Derived.Test.YtbjbagocnnffaaaDoorWZeros
import Derived.Test.YtbjbagocnnffaaaDoorWFoot
import Derived.Test.YtbjbagocnnffaaaDoorWKept
import Derived.Test.YtbjbagocnnffaaaDoorWShare
import Derived.Test.YtbjbagocnnffaaaDoorWN
import Derived.Test.YtbjbagocnnffaaaDoorWNEv
import Derived.Test.YtbjbagocnnffaaaDoorWMore
namespace Go.Proofs.YtbjbagocnnffaaaDoor.P
open Go.RowKit Go.Proofs.YtbjbagocnnffaaaDoorW.PrintWords Go.Proofs.YtbjbagocnnffaaaDoorW.PrintLast Go.Proofs.YtbjbagocnnffaaaDoorW.PrintMore
attribute [-simp] Int.tmod_tmod_of_dvd
attribute [local go_sem] max2_int min2_int max_two min_two max_three min_three max_four min_four   -- for this text's walks alone
set_option linter.unusedVariables false
set_option linter.unusedSimpArgs false



def errW : Option Int → Value
  | none => .nilIface
  | some c => .iface 0 (.int .i64 c)
theorem errW_none : errW none = .nilIface := rfl
theorem errW_some (c : Int) : errW (some c) = .iface 0 (.int .i64 c) := rfl

theorem info5 : (Tryd.prog.info? 5).map (fun i => (i.zero, i.size, i.bytes)) = some (some (.int .u8 0), 1, 1) := by kernel_rfl
theorem info9 : (Tryd.prog.info? 9).map (fun i => (i.zero, i.size, i.bytes)) = some (some (.string ⟨#[]⟩), 1, 16) := by kernel_rfl
-- the values' own types

theorem qb_ {p q : Prop} (h : q) (h2 : q → p := by intro h_; repeat (first | (with_reducible first | exact h_ | apply below_alloc | apply pw_below_drewN | apply below_drew1 | refine below_set ?_ (Aside0.out (by assumption))) | exact h_)) : p := h2 h
theorem qk_ {p q : Prop} (h : q) (h2 : q → p := by intro h_; (with_reducible repeat (first | refine blk_drewN ?_ _ | refine blk_drew ?_ | refine blk_alloc ?_ _)); exact h_) : p := h2 h
theorem ql_ {p q : Prop} (h : q) (h2 : q → p := by intro h_; (with_reducible repeat (first | apply Kd.R_alloc | apply Kd.R_drewN | apply Kd.R_drew)); exact h_) : p := h2 h
theorem qr_ {p : Prop} (h : p := by first | rfl | (simp; done) | (simp [*]; done)) : p := h
theorem qw_ {p : Prop} (h : p := by first | rfl | (simp [errW_none, errW_some] <;> rfl) | (simp [*, errW_none, errW_some] <;> rfl)) : p := h
theorem qn_ {p : Prop} (h : p := by first | exact Kd.R_nil _ _ _ _ _ | exact Kd.N_nil _ _ _ _ _ | exact Kd.V_nil _ _ _ _ _ | exact Kd.Q_nil _ _ _ _ _ | exact Kd.S_nil _ _ _ _ _) : p := h
theorem qa_ {p : Prop} (h : p := by (try simp only [List.map_toArray, List.map_cons, List.map_nil]); first | done | rfl | (simp only [List.length_drop, List.length_take]; rfl)) : p := h
theorem qh_ {p q : Prop} (h : q) (h2 : q → p := by intro h_; repeat (first | (with_reducible first | exact h_ | apply KeepBut.set_ | apply keep_drewN | apply keep_drew | apply keep_alloc) | exact h_)) : p := h2 h
theorem qd_ {p : Prop} [Decidable p] (h : decide p = true := by first | (with_reducible assumption) | assumption) : p := of_decide_eq_true h
theorem cz6_ {w : World} {g : Nat} {t : TypeId} {c0_ c1_ c2_ c3_ c4_ c5_ : Value} (h : w.heap[g]? = some (.cells #[c0_, c1_, c2_, c3_, c4_, c5_] t (0, 0))) : w.cell? ⟨g, 0, none⟩ = some c0_ ∧ w.cell? ⟨g, 1, none⟩ = some c1_ ∧ w.cell? ⟨g, 2, none⟩ = some c2_ ∧ w.cell? ⟨g, 3, none⟩ = some c3_ ∧ w.cell? ⟨g, 4, none⟩ = some c4_ ∧ w.cell? ⟨g, 5, none⟩ = some c5_ ∧ w.frozen? ⟨g, 0, none⟩ = false ∧ w.frozen? ⟨g, 1, none⟩ = false ∧ w.frozen? ⟨g, 2, none⟩ = false ∧ w.frozen? ⟨g, 3, none⟩ = false ∧ w.frozen? ⟨g, 4, none⟩ = false ∧ w.frozen? ⟨g, 5, none⟩ = false := ⟨(blk_cell h 0).trans rfl, (blk_cell h 1).trans rfl, (blk_cell h 2).trans rfl, (blk_cell h 3).trans rfl, (blk_cell h 4).trans rfl, (blk_cell h 5).trans rfl, blk_frozen h 0, blk_frozen h 1, blk_frozen h 2, blk_frozen h 3, blk_frozen h 4, blk_frozen h 5⟩
theorem qs6_ {w : World} {g : Nat} {t : TypeId} {c0_ c1_ c2_ c3_ c4_ c5_ u0_ u1_ u2_ u3_ u4_ u5_ : Value} (h : w.heap[g]? = some (.cells #[c0_, c1_, c2_, c3_, c4_, c5_] t (0, 0))) : ((((((w.setCell ⟨g, 0, none⟩ u0_).setCell ⟨g, 1, none⟩ u1_).setCell ⟨g, 2, none⟩ u2_).setCell ⟨g, 3, none⟩ u3_).setCell ⟨g, 4, none⟩ u4_).setCell ⟨g, 5, none⟩ u5_).heap[g]? = some (.cells #[u0_, u1_, u2_, u3_, u4_, u5_] t (0, 0)) := (blk_put (blk_put (blk_put (blk_put (blk_put (blk_put h 0 u0_ rfl) 1 u1_ rfl) 2 u2_ rfl) 3 u3_ rfl) 4 u4_ rfl) 5 u5_ rfl)
end Go.Proofs.YtbjbagocnnffaaaDoor.P
