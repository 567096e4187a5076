-- Written by a program of this session (wip/tools/mk.sh) for this claim: it runs the kit's print with contracts of our own. Lean checks it.
import Derived.Test.YtmbiggcapakjjaaDoorProg
import Derived.Below
import Derived.Deep.Draws
import Derived.Deep.AppendLies
import Derived.Maps.AppendAt
import Derived.OwnWalk
import Derived.Laws.BytesArg
import Derived.Laws.MakeOwn
import Derived.Laws.OwnMore
import Derived.Deep.OwnRows
import Derived.Tactics
import Derived.Lib.ConvBytes
import Derived.Laws.Slices
import Derived.WalkKit
import Derived.KernelRfl
import Derived.RowKit3
import Derived.Deep.LoopGhost
import Derived.Deep.QuietTactic
import Derived.BigQuiet
import Derived.WideLaws
import Derived.Deep.DeepCutAuto
import Derived.Deep.CutBlock
import Derived.Deep.RegionHeld3
import Derived.Laws.Rows
import Derived.Lib.AppendStr
import Derived.ArgAppend
import Derived.Laws.IdiomCopy
import Derived.OrdersHeld
import Derived.Laws.BitsLemmas
import Derived.RowKit
import Derived.Lib.SlBytesConst
import Derived.Test.YtmbiggcapakjjaaDoorAids
import Derived.Test.YtmbiggcapakjjaaDoorConv
import Derived.Test.YtmbiggcapakjjaaDoorWWords
import Derived.Test.YtmbiggcapakjjaaDoorWLast
import Derived.Test.YtmbiggcapakjjaaDoorWQPut
import Derived.Test.YtmbiggcapakjjaaDoorWApart
import Derived.Test.YtmbiggcapakjjaaDoorWArr
import Derived.Test.YtmbiggcapakjjaaDoorWZeros
import Derived.Test.YtmbiggcapakjjaaDoorWFoot
import Derived.Test.YtmbiggcapakjjaaDoorWKept
import Derived.Test.YtmbiggcapakjjaaDoorWShare
import Derived.Test.YtmbiggcapakjjaaDoorWN
import Derived.Test.YtmbiggcapakjjaaDoorWNEv
import Derived.Test.YtmbiggcapakjjaaDoorWMore
namespace Go.Proofs.YtmbiggcapakjjaaDoor.P
open Go.RowKit Go.Proofs.YtmbiggcapakjjaaDoorW.PrintWords Go.Proofs.YtmbiggcapakjjaaDoorW.PrintLast Go.Proofs.YtmbiggcapakjjaaDoorW.PrintMore
attribute [-simp] Int.tmod_tmod_of_dvd
attribute [local go_sem] max2_int min2_int max_two min_two max_three min_three max_four min_four   -- for this text's walks alone
set_option linter.unusedVariables false
set_option linter.unusedSimpArgs false



def errW : Option Int → Value
  | none => .nilIface
  | some c => .iface 0 (.int .i64 c)
theorem errW_none : errW none = .nilIface := rfl
theorem errW_some (c : Int) : errW (some c) = .iface 0 (.int .i64 c) := rfl

theorem info3 : (Tryd.prog.info? 3).map (fun i => (i.zero, i.size, i.bytes)) = some (some (.int .i64 0), 1, 8) := by kernel_rfl
theorem info5 : (Tryd.prog.info? 5).map (fun i => (i.zero, i.size, i.bytes)) = some (some (.int .u8 0), 1, 1) := by kernel_rfl
theorem info9 : (Tryd.prog.info? 9).map (fun i => (i.zero, i.size, i.bytes)) = some (some (.string ⟨#[]⟩), 1, 16) := by kernel_rfl
-- the values' own types

def mo_w : List ByteArray := [⟨#[74, 97, 110]⟩, ⟨#[70, 101, 98]⟩, ⟨#[77, 97, 114]⟩, ⟨#[65, 112, 114]⟩, ⟨#[77, 97, 121]⟩, ⟨#[74, 117, 110]⟩, ⟨#[74, 117, 108]⟩, ⟨#[65, 117, 103]⟩, ⟨#[83, 101, 112]⟩, ⟨#[79, 99, 116]⟩, ⟨#[78, 111, 118]⟩, ⟨#[68, 101, 99]⟩]
def mo_word (j : Int) : ByteArray := mo_w.getD j.toNat ⟨#[]⟩
/-- what the listed variable says of a world -/
def mo_Words (w : World) : Prop := (∀ j : Nat, j < 12 → w.cell? ⟨0, j, none⟩ = some (.string (mo_word (j : Int)))) ∧ ∃ m : Int, w.cell? ⟨1, 0, none⟩ = some (.int .i64 m)
theorem mo_Words.below {w w1 : World} (h : mo_Words w) (hb : Below w.heap.size w w1) : mo_Words w1 := ⟨fun j hj => (hb.cell (World.block_lt_of_cell? w _ (h.1 j hj))).trans (h.1 j hj), h.2.imp fun m hm => (hb.cell (World.block_lt_of_cell? w _ hm)).trans hm⟩
theorem mo_at {w W : World} (h : mo_Words w) (hb : Below w.heap.size w W) {j : Int} (h0 : 0 ≤ j) (h6 : j < 12) : W.cell? ⟨0, j.toNat, none⟩ = some (.string (mo_word j)) := by
  have h1 := (h.below hb).1 j.toNat (by omega)
  rwa [Int.toNat_of_nonneg h0] at h1
theorem mo_ix0 (w : World) : (Instr.index 59 (.agg #[.string (mo_word 0), .string (mo_word 1), .string (mo_word 2), .string (mo_word 3), .string (mo_word 4), .string (mo_word 5), .string (mo_word 6), .string (mo_word 7), .string (mo_word 8), .string (mo_word 9), .string (mo_word 10), .string (mo_word 11)]) (.int .i64 0)).run Tryd.prog w = .ok (.string (mo_word 0)) w := by kernel_rfl
theorem mo_ix1 (w : World) : (Instr.index 59 (.agg #[.string (mo_word 0), .string (mo_word 1), .string (mo_word 2), .string (mo_word 3), .string (mo_word 4), .string (mo_word 5), .string (mo_word 6), .string (mo_word 7), .string (mo_word 8), .string (mo_word 9), .string (mo_word 10), .string (mo_word 11)]) (.int .i64 1)).run Tryd.prog w = .ok (.string (mo_word 1)) w := by kernel_rfl
theorem mo_ix2 (w : World) : (Instr.index 59 (.agg #[.string (mo_word 0), .string (mo_word 1), .string (mo_word 2), .string (mo_word 3), .string (mo_word 4), .string (mo_word 5), .string (mo_word 6), .string (mo_word 7), .string (mo_word 8), .string (mo_word 9), .string (mo_word 10), .string (mo_word 11)]) (.int .i64 2)).run Tryd.prog w = .ok (.string (mo_word 2)) w := by kernel_rfl
theorem mo_ix3 (w : World) : (Instr.index 59 (.agg #[.string (mo_word 0), .string (mo_word 1), .string (mo_word 2), .string (mo_word 3), .string (mo_word 4), .string (mo_word 5), .string (mo_word 6), .string (mo_word 7), .string (mo_word 8), .string (mo_word 9), .string (mo_word 10), .string (mo_word 11)]) (.int .i64 3)).run Tryd.prog w = .ok (.string (mo_word 3)) w := by kernel_rfl
theorem mo_ix4 (w : World) : (Instr.index 59 (.agg #[.string (mo_word 0), .string (mo_word 1), .string (mo_word 2), .string (mo_word 3), .string (mo_word 4), .string (mo_word 5), .string (mo_word 6), .string (mo_word 7), .string (mo_word 8), .string (mo_word 9), .string (mo_word 10), .string (mo_word 11)]) (.int .i64 4)).run Tryd.prog w = .ok (.string (mo_word 4)) w := by kernel_rfl
theorem mo_ix5 (w : World) : (Instr.index 59 (.agg #[.string (mo_word 0), .string (mo_word 1), .string (mo_word 2), .string (mo_word 3), .string (mo_word 4), .string (mo_word 5), .string (mo_word 6), .string (mo_word 7), .string (mo_word 8), .string (mo_word 9), .string (mo_word 10), .string (mo_word 11)]) (.int .i64 5)).run Tryd.prog w = .ok (.string (mo_word 5)) w := by kernel_rfl
theorem mo_ix6 (w : World) : (Instr.index 59 (.agg #[.string (mo_word 0), .string (mo_word 1), .string (mo_word 2), .string (mo_word 3), .string (mo_word 4), .string (mo_word 5), .string (mo_word 6), .string (mo_word 7), .string (mo_word 8), .string (mo_word 9), .string (mo_word 10), .string (mo_word 11)]) (.int .i64 6)).run Tryd.prog w = .ok (.string (mo_word 6)) w := by kernel_rfl
theorem mo_ix7 (w : World) : (Instr.index 59 (.agg #[.string (mo_word 0), .string (mo_word 1), .string (mo_word 2), .string (mo_word 3), .string (mo_word 4), .string (mo_word 5), .string (mo_word 6), .string (mo_word 7), .string (mo_word 8), .string (mo_word 9), .string (mo_word 10), .string (mo_word 11)]) (.int .i64 7)).run Tryd.prog w = .ok (.string (mo_word 7)) w := by kernel_rfl
theorem mo_ix8 (w : World) : (Instr.index 59 (.agg #[.string (mo_word 0), .string (mo_word 1), .string (mo_word 2), .string (mo_word 3), .string (mo_word 4), .string (mo_word 5), .string (mo_word 6), .string (mo_word 7), .string (mo_word 8), .string (mo_word 9), .string (mo_word 10), .string (mo_word 11)]) (.int .i64 8)).run Tryd.prog w = .ok (.string (mo_word 8)) w := by kernel_rfl
theorem mo_ix9 (w : World) : (Instr.index 59 (.agg #[.string (mo_word 0), .string (mo_word 1), .string (mo_word 2), .string (mo_word 3), .string (mo_word 4), .string (mo_word 5), .string (mo_word 6), .string (mo_word 7), .string (mo_word 8), .string (mo_word 9), .string (mo_word 10), .string (mo_word 11)]) (.int .i64 9)).run Tryd.prog w = .ok (.string (mo_word 9)) w := by kernel_rfl
theorem mo_ix10 (w : World) : (Instr.index 59 (.agg #[.string (mo_word 0), .string (mo_word 1), .string (mo_word 2), .string (mo_word 3), .string (mo_word 4), .string (mo_word 5), .string (mo_word 6), .string (mo_word 7), .string (mo_word 8), .string (mo_word 9), .string (mo_word 10), .string (mo_word 11)]) (.int .i64 10)).run Tryd.prog w = .ok (.string (mo_word 10)) w := by kernel_rfl
theorem mo_ix11 (w : World) : (Instr.index 59 (.agg #[.string (mo_word 0), .string (mo_word 1), .string (mo_word 2), .string (mo_word 3), .string (mo_word 4), .string (mo_word 5), .string (mo_word 6), .string (mo_word 7), .string (mo_word 8), .string (mo_word 9), .string (mo_word 10), .string (mo_word 11)]) (.int .i64 11)).run Tryd.prog w = .ok (.string (mo_word 11)) w := by kernel_rfl
theorem mo_ix {x : Int} (h0 : 0 ≤ x) (h1 : x < 12) (w : World) : (Instr.index 59 (.agg #[.string (mo_word 0), .string (mo_word 1), .string (mo_word 2), .string (mo_word 3), .string (mo_word 4), .string (mo_word 5), .string (mo_word 6), .string (mo_word 7), .string (mo_word 8), .string (mo_word 9), .string (mo_word 10), .string (mo_word 11)]) (.int .i64 x)).run Tryd.prog w = .ok (.string (mo_word x)) w := by
  have h : x = 0 ∨ x = 1 ∨ x = 2 ∨ x = 3 ∨ x = 4 ∨ x = 5 ∨ x = 6 ∨ x = 7 ∨ x = 8 ∨ x = 9 ∨ x = 10 ∨ x = 11 := by omega
  rcases h with rfl | rfl | rfl | rfl | rfl | rfl | rfl | rfl | rfl | rfl | rfl | rfl
  · exact mo_ix0 w
  · exact mo_ix1 w
  · exact mo_ix2 w
  · exact mo_ix3 w
  · exact mo_ix4 w
  · exact mo_ix5 w
  · exact mo_ix6 w
  · exact mo_ix7 w
  · exact mo_ix8 w
  · exact mo_ix9 w
  · exact mo_ix10 w
  · exact mo_ix11 w

def ar3_ (a b c j : Int) : Int := if j = 0 then a else if j = 1 then b else c
theorem ar3_ix67 (a b c j : Int) (h0 : 0 ≤ j) (h1 : j < 3) (w : World) : (Instr.index 67 (.agg #[.int .i64 a, .int .i64 b, .int .i64 c]) (.int .i64 j)).run Tryd.prog w = .ok (.int .i64 (ar3_ a b c j)) w := by
  have h : j = 0 ∨ j = 1 ∨ j = 2 := by omega
  rcases h with rfl | rfl | rfl
  · exact (rfl : (Instr.index 67 (.agg #[.int .i64 a, .int .i64 b, .int .i64 c]) (.int .i64 0)).run Tryd.prog w = .ok (.int .i64 a) w)
  · exact (rfl : (Instr.index 67 (.agg #[.int .i64 a, .int .i64 b, .int .i64 c]) (.int .i64 1)).run Tryd.prog w = .ok (.int .i64 b) w)
  · exact (rfl : (Instr.index 67 (.agg #[.int .i64 a, .int .i64 b, .int .i64 c]) (.int .i64 2)).run Tryd.prog w = .ok (.int .i64 c) w)

theorem qb_ {p q : Prop} (h : q) (h2 : q → p := by intro h_; repeat (first | (with_reducible first | exact h_ | apply below_alloc | apply pw_below_drewN | apply below_drew1 | refine below_set ?_ (Aside0.out (by assumption))) | exact h_)) : p := h2 h
theorem qk_ {p q : Prop} (h : q) (h2 : q → p := by intro h_; (with_reducible repeat (first | refine blk_drewN ?_ _ | refine blk_drew ?_ | refine blk_alloc ?_ _)); exact h_) : p := h2 h
theorem ql_ {p q : Prop} (h : q) (h2 : q → p := by intro h_; (with_reducible repeat (first | apply Kd.R_alloc | apply Kd.R_drewN | apply Kd.R_drew)); exact h_) : p := h2 h
theorem qr_ {p : Prop} (h : p := by first | rfl | (simp; done) | (simp [*]; done)) : p := h
theorem qw_ {p : Prop} (h : p := by first | rfl | (simp [errW_none, errW_some] <;> rfl) | (simp [*, errW_none, errW_some] <;> rfl)) : p := h
theorem qn_ {p : Prop} (h : p := by first | exact Kd.R_nil _ _ _ _ _ | exact Kd.N_nil _ _ _ _ _ | exact Kd.V_nil _ _ _ _ _ | exact Kd.Q_nil _ _ _ _ _ | exact Kd.S_nil _ _ _ _ _) : p := h
theorem qa_ {p : Prop} (h : p := by (try simp only [List.map_toArray, List.map_cons, List.map_nil]); first | done | rfl | (simp only [List.length_drop, List.length_take]; rfl)) : p := h
theorem qh_ {p q : Prop} (h : q) (h2 : q → p := by intro h_; repeat (first | (with_reducible first | exact h_ | apply KeepBut.set_ | apply keep_drewN | apply keep_drew | apply keep_alloc) | exact h_)) : p := h2 h
theorem qd_ {p : Prop} [Decidable p] (h : decide p = true := by first | (with_reducible assumption) | assumption) : p := of_decide_eq_true h
theorem cz2_ {w : World} {g : Nat} {t : TypeId} {c0_ c1_ : Value} (h : w.heap[g]? = some (.cells #[c0_, c1_] t (0, 0))) : w.cell? ⟨g, 0, none⟩ = some c0_ ∧ w.cell? ⟨g, 1, none⟩ = some c1_ ∧ w.frozen? ⟨g, 0, none⟩ = false ∧ w.frozen? ⟨g, 1, none⟩ = false := ⟨(blk_cell h 0).trans rfl, (blk_cell h 1).trans rfl, blk_frozen h 0, blk_frozen h 1⟩
theorem qs2_ {w : World} {g : Nat} {t : TypeId} {c0_ c1_ u0_ u1_ : Value} (h : w.heap[g]? = some (.cells #[c0_, c1_] t (0, 0))) : ((w.setCell ⟨g, 0, none⟩ u0_).setCell ⟨g, 1, none⟩ u1_).heap[g]? = some (.cells #[u0_, u1_] t (0, 0)) := (blk_put (blk_put h 0 u0_ rfl) 1 u1_ rfl)
end Go.Proofs.YtmbiggcapakjjaaDoor.P
