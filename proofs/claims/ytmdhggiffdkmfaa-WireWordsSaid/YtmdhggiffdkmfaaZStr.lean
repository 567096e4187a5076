import Derived.Test.YtmdhggiffdkmfaaPx0
import Derived.Shelf.Small.Strs
namespace Go.Proofs.Ytmdhggiffdkmfaa.P
open Go.RowKit Go.Shelf Go.Proofs.YtmdhggiffdkmfaaW.PrintWords Go.Proofs.YtmdhggiffdkmfaaW.PrintLast Go.Proofs.YtmdhggiffdkmfaaW.PrintMore
attribute [-simp] Int.tmod_tmod_of_dvd
set_option linter.unusedVariables false
set_option linter.unusedSimpArgs false
def Try.laysIxB_ren : Go.Shelf.Ren := ⟨fun | 137 => 24 | 217 => 34 | 266 => 43 | n => n, fun | 9 => 9 | 5 => 5 | 3 => 3 | n => n, fun | n => n⟩
theorem Try.laysIxB : Go.Proofs.Lays.n137 Try.prog Try.laysIxB_ren := {
  mixed := by kernel_rfl
  f137 := Try.func24.trans (congrArg some (by kernel_rfl))
  f217 := Try.func34.trans (congrArg some (by kernel_rfl))
  f266 := Try.func43.trans (congrArg some (by kernel_rfl))
  t3 := Try.underlying3
  a3 := Try.isAgg3
  z3 := Try.sizeOf3
  v3 := Try.zeroValue3
  t5 := Try.underlying5
  a5 := Try.isAgg5
  z5 := Try.sizeOf5
  v5 := Try.zeroValue5
  t9 := Try.underlying9
  a9 := Try.isAgg9
  z9 := Try.sizeOf9
  v9 := Try.zeroValue9 }
theorem wr_IndexByte (s : ByteArray) (c : Int) (w : World) : Calls Try.prog 24 #[.string s, .int .u8 c] w fun e w' => e = .returned (.int .i64 (Lib.indexByte s.data.toList c.toNat.toUInt8)) ∧ w' = w :=
  Any.strings_IndexByte Try.laysIxB s c w
theorem infoB : (Try.prog.info? 5).map (fun i => (i.zero, i.size, i.bytes)) = some (some (.int .u8 0), 1, 1) := by kernel_rfl
set_option maxHeartbeats 1000000 in
theorem wr_Clone1 (ad : Addr) (c : Nat) (xs : List Int) (w : World) (hx : Kd.C (Kd.int .u8) w (some ad) xs.length xs) (hxl : xs.length ≤ 100000000) :
    Calls Try.prog 19 #[.slice (some ad) xs.length c] w fun e w' => ∃ v, e = .returned v ∧ Kd.R (Kd.int .u8) 5 w' w.heap.size (fun _ => True) v xs ∧ Below w.heap.size w w' := by
  have heq : ∀ w : World, (binOp BinOp.eql 22 (.slice (some ad) xs.length c) (.slice none 0 0)).run Try.prog w = .ok (.bool false) w := fun w => by
    first | rfl | (simp [binOp, Try.underlying22, run_underlying Try.underlying22]; done) | kernel_rfl
  go_enter Try.func19, Try.ntmps19
  go_wp2_with ((with_reducible refine gate_builtin (b := .append) (xs := #[.tmp 5, .tmp 6]) rfl ?_); at_builtin; refine Kd.R_append_rows (Kd.int .u8) (w0 := w) w.heap.size rfl (.tmp 5) (.tmp 6) 22 5 (.int .u8 0) 1 rfl Try.underlying22 infoB rfl (by decide) (by omega) (.slice (some ⟨w.heap.size, 0, none⟩) 0 0) [] xs _ _ _ (fun _ => True) (fun _ => False) rfl rfl ?aO ?aR (fun _ _ h => h) (fun _ h => h.elim) ?aF ?aB ?aS ?aL ?_; (case aO => exact Kd.R_of_own ⟨rfl, .inr ⟨w.heap.size, 0, #[], rfl, Nat.le_refl _, heap_alloc_new _ _, Nat.le_refl _, by decide, rfl, rfl⟩⟩ (fun _ _ => trivial)); (case aR => exact Kd.C_alloc hx _); (case aF => exact fun _ _ => trivial); (case aB => exact below_alloc (Below.refl _ _) _); (case aS => simp); (case aL => simp; omega); intro v2 w2 ho2 hb2 hg2 hat2; obtain ⟨A2, cc2, rfl⟩ := Kd.R_slice ho2; have HO2 := Aside0.mk ho2; have HB2 := Aside0.mk hb2; clear ho2 hb2 hg2 hat2)
  go_ret
  exact ⟨_, rfl, by have := HO2.out; simpa using this, HB2.out⟩
theorem wr_Clone0 (c : Nat) (w : World) : Calls Try.prog 19 #[.slice none 0 c] w fun e w' => ∃ v, e = .returned v ∧ Kd.R (Kd.int .u8) 5 w' w.heap.size (fun _ => True) v [] ∧ Below w.heap.size w w' := by
  have heq : ∀ w : World, (binOp BinOp.eql 22 (.slice none 0 c) (.slice none 0 0)).run Try.prog w = .ok (.bool true) w := fun w => by
    first | rfl | (simp [binOp, Try.underlying22, run_underlying Try.underlying22]; done) | kernel_rfl
  go_enter Try.func19, Try.ntmps19
  go_wp2
  go_ret
  exact ⟨_, rfl, Kd.R_nil _ _ _ _ _, Below.refl _ _⟩
theorem wr_Clone (A : Option Addr) (c : Nat) (xs : List Int) (w : World) (hx : Kd.C (Kd.int .u8) w A xs.length xs) (hxl : xs.length ≤ 100000000) :
    Calls Try.prog 19 #[.slice A xs.length c] w fun e w' => ∃ v, e = .returned v ∧ Kd.R (Kd.int .u8) 5 w' w.heap.size (fun _ => True) v xs ∧ Below w.heap.size w w' := by
  cases A with
  | some ad => exact wr_Clone1 ad c xs w hx hxl
  | none =>
    have h0 : xs = [] := by
      cases xs with
      | nil => rfl
      | cons x t =>
        obtain ⟨ad, e, _⟩ := Kd.at_int hx 0 (by omega) (by simp)
        cases e
    subst h0
    exact wr_Clone0 c w
theorem cut3 {P : Program} (t e : TypeId) {i : TypeInfo} (ht : P.underlying t = some (.slice e)) (hi : P.info? e = some i) (size : Nat) (hsz : i.size = size) (A : Option Addr) (n c : Nat) (l h : Int) (h0 : 0 ≤ l) (h1 : l ≤ h) (h2 : h ≤ c) :
    ∀ W : World, (Instr.slice t (.slice A n c) (some (.int .i64 l)) (some (.int .i64 h)) (some (.int .i64 h))).run P W = .ok (.slice (if h.toNat = l.toNat then A else A.map (·.add (l.toNat * size))) (h.toNat - l.toNat) (h.toNat - l.toNat)) W := by
  intro W
  have hel : P.elem t = e := by simp [Program.elem, ht]
  have hu : P.underlying t = some (.slice (P.elem t)) := by rw [hel]; exact ht
  rw [run_slice_lhm W t A n c hu .i64 .i64 .i64 l h h h0 h1 (Int.le_refl _) h2, hel]
  simp [sizeOf, typeInfo, hi, hsz, sliced, Result.andThen]
end Go.Proofs.Ytmdhggiffdkmfaa.P
