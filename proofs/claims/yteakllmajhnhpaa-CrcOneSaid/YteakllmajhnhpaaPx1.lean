-- Written by a program of this session (wip/tools/mk.sh) for this claim: it runs the kit's print with contracts of our own. Lean checks it.
import Derived.Test.YteakllmajhnhpaaPx0
namespace Go.Proofs.Yteakllmajhnhpaa.P
open Go.RowKit Go.Proofs.YteakllmajhnhpaaW.PrintWords Go.Proofs.YteakllmajhnhpaaW.PrintLast Go.Proofs.YteakllmajhnhpaaW.PrintMore
attribute [local go_sem] max2_int min2_int max_two min_two max_three min_three max_four min_four   -- for this text's walks alone
set_option linter.unusedVariables false
set_option linter.unusedSimpArgs false

/-! ### crc_nibble: function 14 -/
def crc_nibble.l0 : Nat → Int → Int → Option (Int)
  | 0, _, _ => none
  | k + 1, x0, x3 => if x3 < 4 then (crc_nibble.l0 k (Go.bits .xor .u32 (x0 / 2) (((Go.bits .and .u32 x0 1) * 3988292384) % 4294967296)) (wrap64 (x3 + 1))) else (some x0)
def crc_nibble.f (k : Nat) (a0 : Int) : Option (Int) := crc_nibble.l0 k a0 0
theorem crc_nibble.mono_l : ∀ k, (∀ y0 y1, LeO (crc_nibble.l0 k y0 y1) (crc_nibble.l0 (k + 1) y0 y1))
  | 0 => fun _ _ r h => by simp [crc_nibble.l0] at h
  | k + 1 => by
    have ih0 := crc_nibble.mono_l k
    · intro y0 y1
      unfold crc_nibble.l0
      repeat' first
      | (with_reducible exact ih0 _ _)
      | (with_reducible exact LeO.refl _)
      | (with_reducible exact LeO.none _)
      | (with_reducible refine LeO.ite ?_ ?_)
      | (with_reducible refine LeO.bind ?_ (fun _ => ?_))
      | exact ih0 _ _
      | exact LeO.none _
      | refine LeO.ite ?_ ?_
      | refine LeO.bind ?_ (fun _ => ?_)
theorem crc_nibble.mono : ∀ a0 k, LeO (crc_nibble.f k a0) (crc_nibble.f (k + 1) a0) := by
  intro a0 k
  have ih0 := crc_nibble.mono_l k
  unfold crc_nibble.f
  repeat' first
      | (with_reducible exact ih0 _ _)
      | (with_reducible exact LeO.refl _)
      | (with_reducible exact LeO.none _)
      | (with_reducible refine LeO.ite ?_ ?_)
      | (with_reducible refine LeO.bind ?_ (fun _ => ?_))
      | exact ih0 _ _
      | exact LeO.none _
      | refine LeO.ite ?_ ?_
      | refine LeO.bind ?_ (fun _ => ?_)
set_option maxHeartbeats 8000000 in
set_option maxRecDepth 100000 in
theorem crc_nibble.calls (k : Nat) (a0 : Int) (r : Int) (w : World) (h : crc_nibble.f k a0 = some r) :
    Calls Try.prog 14 #[.int .u32 a0] w fun e w' => e = .returned (.int .u32 r) ∧ Drawn0 w w' := by
  have H : (crc_nibble.l0 k a0 0) = some r := h
  clear h
  have H' := Aside0.mk H
  clear H
  go_enter Try.func14, Try.ntmps14
  go_wp2
  go_loopg [0, 3] k (fun kq v0 v3 w' => ∃ (x0_1 : Int) (x3_1 : Int), v0 = .int .u32 x0_1 ∧ v3 = .int .i64 x3_1 ∧ Aside0 (crc_nibble.l0 kq x0_1 x3_1 = some r) ∧ Aside0 (kq ≤ k) ∧ Drawn0 w w')
  case atStart => exact ⟨(a0), (0), (by first | rfl | (simp; done) | (simp [*]; done)), (by first | rfl | (simp; done) | (simp [*]; done)), H', ⟨Nat.le_refl _⟩, by repeat (first | exact Drawn0.refl _ | apply Drawn0.step)⟩
  case round =>
    clear H'
    try clear c1
    obtain ⟨x0_1, x3_1, rfl, rfl, HA, HK1, ⟨m1, rfl⟩⟩ := hrel
    cases gk with
    | zero => exact absurd HA.out (by simp [crc_nibble.l0])
    | succ k1 =>
      have H := HA.out
      clear HA
      simp only [crc_nibble.l0] at H
      by_cases c2 : x3_1 < 4
      · rw [if_pos c2] at H
        have c2b0 : decide (x3_1 < 4) = true := decide_eq_true c2
        clear c2
        have H' := Aside0.mk H
        clear H
        go_wp2
        go_roundg k1
        case measure => have := HK1.out; omega
        case rel => exact ⟨(Go.bits .xor .u32 (x0_1 / 2) (((Go.bits .and .u32 x0_1 1) * 3988292384) % 4294967296)), (wrap64 (x3_1 + 1)), (by first | rfl | (simp; done) | (simp [*]; done)), (by first | rfl | (simp; done) | (simp [*]; done)), H', ⟨by have := HK1.out; omega⟩, by repeat (first | exact Drawn0.refl _ | apply Drawn0.step)⟩
      · rw [if_neg c2] at H
        have c2b0 : decide (x3_1 < 4) = false := decide_eq_false c2
        clear c2
        obtain rfl := Option.some.inj H
        go_wp2
        go_ret
        exact ⟨by first | rfl | (simp; done) | (simp [*]; done), by repeat (first | exact Drawn0.refl _ | apply Drawn0.step)⟩

/-! ### crc_table: function 13 -/
def crc_T (j : Nat) : Int := (crc_nibble.f 5 (j : Int)).getD 0
def crc_tab (k : Nat) : Array Value := ((List.range 16).map fun j => Value.int .u32 (if j < k then crc_T j else 0)).toArray
theorem crc_nib (j : Nat) (h : j < 16) : crc_nibble.f 5 (j : Int) = some (crc_T j) := by
  have all : ∀ j : Nat, j < 16 → (crc_nibble.f 5 (j : Int)).isSome = true := by decide +kernel
  obtain ⟨x, hx⟩ := Option.isSome_iff_exists.mp (all j h)
  unfold crc_T
  rw [hx]; rfl
theorem crc_tab_size (k : Nat) : (crc_tab k).size = 16 := by simp [crc_tab]
theorem crc_tab_get (k j : Nat) (h : j < 16) : (crc_tab k)[j]? = some (.int .u32 (if j < k then crc_T j else 0)) := by simp [crc_tab, h]
theorem crc_tab_set (k : Nat) (h : k < 16) : (crc_tab k).setIfInBounds k (.int .u32 (crc_T k)) = crc_tab (k + 1) := by
  apply Array.ext_getElem?
  intro i
  rw [Array.getElem?_setIfInBounds, crc_tab_size]
  by_cases hi : i < 16
  · rw [crc_tab_get _ i hi, crc_tab_get _ i hi]
    by_cases e : k = i
    · subst e; simp [h]
    · have : (i < k + 1) ↔ i < k := by omega
      simp [e, this]
  · have h1 : (crc_tab k)[i]? = none := Array.getElem?_eq_none (by rw [crc_tab_size]; omega)
    have h2 : (crc_tab (k + 1))[i]? = none := Array.getElem?_eq_none (by rw [crc_tab_size]; omega)
    have h3 : ¬ k = i := by omega
    simp [h1, h2, h3]
theorem crc_tab_zero : crc_tab 0 = #[.int .u32 0, .int .u32 0, .int .u32 0, .int .u32 0, .int .u32 0, .int .u32 0, .int .u32 0, .int .u32 0, .int .u32 0, .int .u32 0, .int .u32 0, .int .u32 0, .int .u32 0, .int .u32 0, .int .u32 0, .int .u32 0] := by rfl
theorem crc_tab_one (k : Nat) : (crc_tab k).all (·.oneCell') = true := by
  simp [crc_tab, Value.oneCell']
set_option maxHeartbeats 1000000 in
theorem crc_table.calls (w : World) : Calls Try.prog 13 #[] w fun e w' => e = .returned (.agg (crc_tab 16)) ∧ Below w.heap.size w w' := by
  go_enter Try.func13, Try.ntmps13
  go_wp2
  go_loopw [3] (fun v3 wr => ∃ k : Nat, k ≤ 16 ∧ v3 = .int .i64 k ∧ wr.heap[w.heap.size]? = some (.cells (crc_tab 0) 36 (0, 0)) ∧ wr.heap[w.heap.size + 1]? = some (.cells (crc_tab k) 36 (0, 0)) ∧ Below w.heap.size w wr) (fun v3 _ => 16 - (intOf v3).toNat)
  case atStart => exact ⟨0, by omega, rfl, heap_alloc2_old _ _ _, heap_alloc2_new _ _ _, ((Below.refl _ _).alloc (Nat.le_refl _) _).alloc (by simp) _⟩
  case round =>
    obtain ⟨k, hk, rfl, h0, h1, hb⟩ := hrel
    by_cases hlt : k < 16
    · have hc : wr.cell? ⟨w.heap.size + 1, k, none⟩ = some (.int .u32 0) := by
        rw [cell_of_row _ _ _ _ _ _ h1, crc_tab_get k k hlt]; simp
      have hf : wr.frozen? ⟨w.heap.size + 1, k, none⟩ = false := frozen_of_row _ _ _ _ _ h1
      have H0 := Aside0.mk h0
      have H1 := Aside0.mk h1
      have HB := Aside0.mk hb
      clear h0 h1 hb
      go_wp2_with (go_at_call 14; refine (crc_nibble.calls 5 k (crc_T k) _ (crc_nib k hlt)).mono ?_; rintro e w' ⟨rfl, ⟨n, rfl⟩⟩)
      go_roundw
      case measure => simp [intOf]; omega
      case rel =>
        refine ⟨k + 1, by omega, by go_num, ?_, ?_, ?_⟩
        · exact (heap_setCell_other _ _ _ _ (by simp)).trans H0.out
        · exact (heap_setCell_same (wr.drewN n) _ _ (crc_tab k) 36 _ H1.out).trans (by rw [crc_tab_set k hlt])
        · exact (pw_below_drewN HB.out _).setCell (by simp) _
    · have e : k = 16 := by omega
      subst e
      have H0 := Aside0.mk h0
      have H1 := Aside0.mk h1
      have HB := Aside0.mk hb
      clear h0 h1 hb
      go_wp2_with (first | (refine wpList_load_row rfl 36 _ rfl (w.heap.size + 1) rfl _ _ _ _ H1.out Try.underlying36 rfl (by kernel_rfl) ?_) | (refine wpList_store_row rfl 36 _ _ rfl w.heap.size (crc_tab 16) rfl rfl _ _ H0.out (by kernel_rfl) (by simp [crc_tab_size]) (crc_tab_one 16) ?_))
      exact bodyPost_ret (v := .agg (crc_tab 16)) (results_cell_row rfl _ _ w.heap.size _ _ _ _ rfl (setRow_heap _ _ _ _ _ _ H0.out) Try.underlying36 rfl (by kernel_rfl)) rfl ⟨rfl, HB.out.trans ⟨rfl, rfl, rfl, by rw [size_setRow]; exact Nat.le_refl _, fun i hi => setRow_other _ _ _ _ (by omega)⟩⟩

/-! ### crc_More: function 9 -/
def crc_Four (x f : Int) : Int := Go.bits .xor .u32 (x / 16) (crc_T (Go.bits .and .u32 (Go.bits .xor .u32 x f) 15).toNat)
def crc_Byte (x c : Int) : Int := crc_Four (crc_Four x (Go.bits .and .u8 c 15 % 4294967296)) (c / 16 % 4294967296)
def crc_part (x lo hi : Int) : Nat → Int
  | 0 => x
  | 1 => crc_Four x lo
  | _ => crc_Four (crc_Four x lo) hi
theorem crc_fold (l : List Int) (k : Nat) (h : k < l.length) (x : Int) : (l.take (k + 1)).foldl crc_Byte x = crc_Byte ((l.take k).foldl crc_Byte x) (rd l k) := by
  rw [List.take_succ_eq_append_getElem h, List.foldl_append]
  simp [rd, h]
def crc_More.f (a0 : Int) (l1 : List Int) : Option Int := some (Go.bits .xor .u32 4294967295 (l1.foldl crc_Byte (Go.bits .xor .u32 4294967295 a0)))
theorem crc_mask (a : Int) : 0 ≤ Go.bits .and .u32 a 15 ∧ Go.bits .and .u32 a 15 ≤ 15 := by
  unfold Go.bits
  have h : ((BitVec.ofInt IntKind.u32.bits a &&& BitVec.ofInt IntKind.u32.bits 15).toNat) ≤ 15 := by
    rw [BitVec.toNat_and]
    exact Nat.and_le_right
  simp only [IntKind.wrap_u32]
  omega
theorem crc_rest (w1 : World) (X : Array Value) (t : TypeId) (cs : Array Value) (w : World) (h : Below w.heap.size w w1) :
    ((w1.alloc (Obj.cells X t)).setRow w1.heap.size cs).heap[w1.heap.size]? = some (.cells cs t (0, 0)) ∧ Below w.heap.size w ((w1.alloc (Obj.cells X t)).setRow w1.heap.size cs) ∧ w1.heap.size < ((w1.alloc (Obj.cells X t)).setRow w1.heap.size cs).heap.size :=
  ⟨setRow_heap _ _ _ _ _ _ (heap_alloc_new _ _), (h.alloc h.size _).trans ⟨rfl, rfl, rfl, by rw [size_setRow]; exact Nat.le_refl _, fun i hi => setRow_other _ _ _ _ (by have := h.size; omega)⟩, by rw [size_setRow]; simp⟩
set_option maxHeartbeats 1000000 in
theorem crc_More.calls (a0 : Int) (A1 : Option Addr) (c1 : Nat) (l1 : List Int) (r : Int) (w : World) (hr1 : Kd.C (Kd.int .u8) w A1 l1.length l1) (hc1 : l1.length ≤ c1) (h : crc_More.f a0 l1 = some r) :
    Calls Try.prog 9 #[.int .u32 a0, .slice A1 l1.length c1] w fun e w' => e = .returned (.int .u32 r) ∧ Below w.heap.size w w' := by
  have HR1 := Aside0.mk hr1
  have hmax := Kd.C_max hr1
  unfold crc_More.f at h
  obtain rfl := Option.some.inj h
  clear hr1 h
  go_enter Try.func9, Try.ntmps9
  go_wp2_with (first | (go_at_call 13; refine (crc_table.calls _).mono ?_; rintro e w1 ⟨rfl, HB1⟩) | (refine wpList_store_row rfl 36 _ _ rfl _ (crc_tab 16) rfl rfl _ _ (heap_alloc_new _ _) (by kernel_rfl) (by simp [crc_tab_size]) (crc_tab_one 16) ?_))
  go_loopw [6, 16] (fun v6 v16 wr => ∃ k : Nat, k ≤ l1.length ∧ v16 = .int .i64 k ∧ v6 = .int .u32 ((l1.take k).foldl crc_Byte (Go.bits .xor .u32 4294967295 a0)) ∧ Aside0 (wr.heap[w1.heap.size]? = some (.cells (crc_tab 16) 36 (0, 0)) ∧ Below w.heap.size w wr ∧ w1.heap.size < wr.heap.size)) (fun _ v16 _ => l1.length - (intOf v16).toNat)
  case atStart => exact ⟨0, by omega, rfl, rfl, ⟨crc_rest _ _ _ _ _ HB1⟩⟩
  case round =>
    obtain ⟨k, hk, rfl, rfl, HW⟩ := hrel
    by_cases hlt : k < l1.length
    · obtain ⟨ad, rfl, hcell⟩ := Kd.at_int (Kd.C_below HR1.out HW.out.2.1) (k : Int) (by omega) (by omega)
      rw [Int.toNat_natCast] at hcell
      go_wp2
      obtain ⟨lo, elo⟩ : ∃ lo, lo = Go.bits .and .u8 (rd l1 k) 15 % 4294967296 := ⟨_, rfl⟩
      obtain ⟨hi, ehi⟩ : ∃ hi, hi = rd l1 k / 16 % 4294967296 := ⟨_, rfl⟩
      obtain ⟨X, eX⟩ : ∃ X, X = (l1.take k).foldl crc_Byte (Go.bits .xor .u32 4294967295 a0) := ⟨_, rfl⟩
      rw [← elo, ← ehi, ← eX]
      have Elo := Aside0.mk elo
      have Ehi := Aside0.mk ehi
      have EX := Aside0.mk eX
      clear elo ehi eX
      go_loop [6, 27] (fun v6 v27 => ∃ j : Nat, j ≤ 2 ∧ v27 = .int .i64 j ∧ v6 = .int .u32 (crc_part X lo hi j)) (fun _ v27 => 2 - (intOf v27).toNat)
      case atStart => exact ⟨0, by omega, rfl, rfl⟩
      case round =>
        obtain ⟨j, hj, rfl, rfl⟩ := hrel
        have hj3 : j = 0 ∨ j = 1 ∨ j = 2 := by omega
        have i0 : ∀ w : World, (Instr.index 38 (.agg #[.int .u32 lo, .int .u32 hi]) (.int .i64 0)).run Try.prog w = .ok (.int .u32 lo) w := fun _ => by kernel_rfl
        have i1 : ∀ w : World, (Instr.index 38 (.agg #[.int .u32 lo, .int .u32 hi]) (.int .i64 1)).run Try.prog w = .ok (.int .u32 hi) w := fun _ => by kernel_rfl
        have hload : ∀ x f : Int, wr.cell? ⟨w1.heap.size, (Go.bits .and .u32 (Go.bits .xor .u32 x f) 15).toNat, none⟩ = some (.int .u32 (crc_T (Go.bits .and .u32 (Go.bits .xor .u32 x f) 15).toNat)) := by
          intro x f
          have hm := crc_mask (Go.bits .xor .u32 x f)
          rw [cell_of_row _ _ _ _ _ _ HW.out.1, crc_tab_get 16 _ (by omega), if_pos (by omega)]
        rcases hj3 with rfl | rfl | rfl
        · have hm1 := (crc_mask (Go.bits .xor .u32 X lo)).1
          have hm2 := (crc_mask (Go.bits .xor .u32 X lo)).2
          have hl := hload X lo
          clear hload
          simp only [crc_part]
          go_wp2
          go_round
          case rel => exact ⟨1, by omega, rfl, rfl⟩
          case measure => simp [intOf]
        · have hm1 := (crc_mask (Go.bits .xor .u32 (crc_Four X lo) hi)).1
          have hm2 := (crc_mask (Go.bits .xor .u32 (crc_Four X lo) hi)).2
          have hl := hload (crc_Four X lo) hi
          clear hload
          simp only [crc_part]
          go_wp2
          go_round
          case rel => exact ⟨2, by omega, rfl, rfl⟩
          case measure => simp [intOf]
        · clear hload
          simp only [crc_part]
          go_wp2
          go_roundw
          case measure => simp [intOf]; omega
          case rel => exact ⟨k + 1, by omega, by go_num, by rw [crc_fold l1 k hlt, ← EX.out]; simp only [crc_Byte, ← Elo.out, ← Ehi.out], HW⟩
    · have e : k = l1.length := by omega
      subst e
      go_wp2
      go_ret
      exact ⟨by simp only [List.take_length]; rfl, HW.out.2.1⟩

/-! ### crc_Of: function 11 -/
def crc_Of.f (l0 : List Int) : Option (Int) := (crc_More.f 0 l0).bind fun t101 => (some t101)
set_option maxHeartbeats 8000000 in
set_option maxRecDepth 100000 in
theorem crc_Of.calls (A0 : Option Addr) (c0 : Nat) (l0 : List Int) (r : Int) (w : World) (hr0 : Kd.C (Kd.int .u8) w A0 l0.length l0) (hc0 : l0.length ≤ c0) (h : crc_Of.f l0 = some r) :
    Calls Try.prog 11 #[.slice A0 l0.length c0] w fun e w' => e = .returned (.int .u32 r) ∧ Below w.heap.size w w' := by
  have HR0 := Aside0.mk hr0
  have HC0 := Aside0.mk hc0
  clear hr0 hc0
  have HB := Aside0.mk (Below.refl w.heap.size w)
  have H : ((crc_More.f 0 l0).bind fun t101 => (some t101)) = some r := h
  clear h
  replace H := Option.bind_eq_some_iff.mp H
  obtain ⟨t101, A20, H⟩ := H
  replace H : (some t101) = some r := H
  have A2 := Aside0.mk A20
  clear A20
  obtain rfl := Option.some.inj H
  go_enter Try.func11, Try.ntmps11
  go_wp2_with (first | ((with_reducible refine gate_callee (f := 9) rfl ?_); refine goesL_ (some 4) rfl rfl Try.func9 (by kernel_rfl) rfl #[.int .u32 0, .slice A0 l0.length c0] rfl (by (try simp only [List.map_toArray, List.map_cons, List.map_nil]); first | done | rfl | (simp only [List.length_drop, List.length_take]; rfl)) ?_; (with_reducible refine (crc_More.calls 0 _ _ l0 t101 _ ?side1 ?side2 A2.out).mono ?_); (case side1 => repeat (first | exact HR0.out | (with_reducible refine Kd.C_alloc ?_ _) | (with_reducible refine Kd.C_drewN ?_ _) | (with_reducible refine Kd.C_drew ?_))); (case side2 => exact HC0.out); rintro e w3 ⟨rfl, hb⟩; refine ⟨_, rfl, ?_⟩; have n0_ := Aside0.mk (below_step (by repeat (first | (with_reducible first | exact HB.out | apply below_alloc | apply pw_below_drewN | apply below_drew1) | exact HB.out)) hb); clear HB; have HB := n0_; clear n0_; (try clear hb); (try clear hb2); (try clear hk); (try clear hi)))
  go_ret
  exact ⟨by first | rfl | (simp [errW_none, errW_some] <;> rfl) | (simp [*, errW_none, errW_some] <;> rfl), by repeat (first | (with_reducible first | exact HB.out | apply below_alloc | apply pw_below_drewN | apply below_drew1) | exact HB.out)⟩

/-! ### letterboxlaw04_awake: function 8 -/
theorem const_C (W : World) (g : Nat) (t : TypeId) (fr : Nat × Nat) (l : List Int) (hm : l.length ≤ 9223372036854775807) (hg : W.heap[g]? = some (.cells (l.map (Value.int .u8)).toArray t fr)) :
    Kd.C (Kd.int .u8) W (some ⟨g, 0, none⟩) l.length l := by
  refine Kd.C_of_reads (d := (0 : Int)) (h1 := fun _ => rfl) ?_
  refine ⟨rfl, hm, fun _ => ⟨_, rfl, fun j hj => ?_⟩⟩
  rw [add_plain, cell_of_row _ _ _ _ _ _ hg]
  simp [List.getD, hj]
def letterboxlaw04_awake.f : Option Bool := some true
set_option maxHeartbeats 1000000 in
theorem letterboxlaw04_awake.calls (r : Bool) (w : World) (h : letterboxlaw04_awake.f = some r) :
    Calls Try.prog 8 #[] w fun e w' => e = .returned (.bool r) ∧ Below w.heap.size w w' := by
  obtain rfl := Option.some.inj h
  clear h
  have kc := fun (w : World) (C : Array Value) (n c : Nat) => Lib.run_convert_bytes_const (P := Try.prog) w 23 5 C n c Try.underlying23 Try.underlying5
  go_enter Try.func8, Try.ntmps8
  go_wp2_with fail
  refine (crc_Of.calls (some ⟨w.heap.size, 0, none⟩) 9 [49, 50, 51, 52, 53, 54, 55, 56, 57] 3421780262 _ (const_C _ _ 5 (9, 10) _ (by decide) (heap_alloc_new _ _)) (by decide) (by decide +kernel)).mono ?_
  rintro e w1 ⟨rfl, hb1⟩
  have HB1 := Aside0.mk hb1
  clear hb1
  go_wp2_with fail
  refine (crc_Of.calls (some ⟨w1.heap.size, 0, none⟩) 4 [49, 50, 51, 52] 2615402659 _ (const_C _ _ 5 (4, 5) _ (by decide) (heap_alloc_new _ _)) (by decide) (by decide +kernel)).mono ?_
  rintro e w2 ⟨rfl, hb2⟩
  have HB2 := Aside0.mk hb2
  clear hb2
  go_wp2_with fail
  refine (crc_More.calls 2615402659 (some ⟨w2.heap.size, 0, none⟩) 5 [53, 54, 55, 56, 57] 3421780262 _ (const_C _ _ 5 (5, 6) _ (by decide) (heap_alloc_new _ _)) (by decide) (by decide +kernel)).mono ?_
  rintro e w3 ⟨rfl, hb3⟩
  have HB3 := Aside0.mk hb3
  clear hb3
  go_wp2_with fail
  go_ret
  have s1 := HB1.out.size
  have s2 := HB2.out.size
  have s3 := HB3.out.size
  simp at s1 s2 s3
  refine ⟨rfl, ?_⟩
  exact (((((Below.refl _ _).alloc (Nat.le_refl _) _).trans (HB1.out.mono (by simp))).alloc (by omega) _).trans (HB2.out.mono (by simp; omega))).alloc (by omega) _ |>.trans (HB3.out.mono (by simp; omega))

/-! ### letterboxref04_More: function 10 -/
mutual
def letterboxref04_More.l0 : Nat → ByteArray → Int → Int → Option (Int)
  | 0, _, _, _ => none
  | k + 1, x1, x5, x6 => if x6 < (x1.size : Int) then (if 0 ≤ x6 then (letterboxref04_More.l1 k x1 x5 x6 (bt x1 x6) 0) else (none)) else (some ((4294967295 - x5) % 4294967296))
def letterboxref04_More.l1 : Nat → ByteArray → Int → Int → Int → Int → Option (Int)
  | 0, _, _, _, _, _ => none
  | k + 1, x1, x5, x6, x7, x8 => if x8 < 8 then (if (Int.tmod (Go.bits .xor .u32 x5 ((Int.tmod x7 2) % 4294967296)) 2) = 1 then (letterboxref04_More.l1 k x1 (Go.bits .xor .u32 ((Int.tdiv (Go.bits .xor .u32 x5 ((Int.tmod x7 2) % 4294967296)) 2) % 4294967296) 3988292384) x6 ((Int.tdiv x7 2) % 256) (wrap64 (x8 + 1))) else (letterboxref04_More.l1 k x1 ((Int.tdiv (Go.bits .xor .u32 x5 ((Int.tmod x7 2) % 4294967296)) 2) % 4294967296) x6 ((Int.tdiv x7 2) % 256) (wrap64 (x8 + 1)))) else (letterboxref04_More.l0 k x1 x5 (wrap64 (x6 + 1)))
end
def letterboxref04_More.f (k : Nat) (a0 : Int) (a1 : ByteArray) : Option (Int) := letterboxref04_More.l0 k a1 ((4294967295 - a0) % 4294967296) 0
theorem letterboxref04_More.mono_l : ∀ k, (∀ y0 y1 y2, LeO (letterboxref04_More.l0 k y0 y1 y2) (letterboxref04_More.l0 (k + 1) y0 y1 y2)) ∧ (∀ y0 y1 y2 y3 y4, LeO (letterboxref04_More.l1 k y0 y1 y2 y3 y4) (letterboxref04_More.l1 (k + 1) y0 y1 y2 y3 y4))
  | 0 => ⟨fun _ _ _ r h => by simp [letterboxref04_More.l0] at h, fun _ _ _ _ _ r h => by simp [letterboxref04_More.l1] at h⟩
  | k + 1 => by
    obtain ⟨ih0, ih1⟩ := letterboxref04_More.mono_l k
    refine ⟨?_, ?_⟩
    · intro y0 y1 y2
      unfold letterboxref04_More.l0
      repeat' first
      | (with_reducible exact ih0 _ _ _)
      | (with_reducible exact ih1 _ _ _ _ _)
      | (with_reducible exact LeO.refl _)
      | (with_reducible exact LeO.none _)
      | (with_reducible refine LeO.ite ?_ ?_)
      | (with_reducible refine LeO.bind ?_ (fun _ => ?_))
      | exact ih0 _ _ _
      | exact ih1 _ _ _ _ _
      | exact LeO.none _
      | refine LeO.ite ?_ ?_
      | refine LeO.bind ?_ (fun _ => ?_)
    · intro y0 y1 y2 y3 y4
      unfold letterboxref04_More.l1
      repeat' first
      | (with_reducible exact ih0 _ _ _)
      | (with_reducible exact ih1 _ _ _ _ _)
      | (with_reducible exact LeO.refl _)
      | (with_reducible exact LeO.none _)
      | (with_reducible refine LeO.ite ?_ ?_)
      | (with_reducible refine LeO.bind ?_ (fun _ => ?_))
      | exact ih0 _ _ _
      | exact ih1 _ _ _ _ _
      | exact LeO.none _
      | refine LeO.ite ?_ ?_
      | refine LeO.bind ?_ (fun _ => ?_)
theorem letterboxref04_More.mono : ∀ a0 a1 k, LeO (letterboxref04_More.f k a0 a1) (letterboxref04_More.f (k + 1) a0 a1) := by
  intro a0 a1 k
  obtain ⟨ih0, ih1⟩ := letterboxref04_More.mono_l k
  unfold letterboxref04_More.f
  repeat' first
      | (with_reducible exact ih0 _ _ _)
      | (with_reducible exact ih1 _ _ _ _ _)
      | (with_reducible exact LeO.refl _)
      | (with_reducible exact LeO.none _)
      | (with_reducible refine LeO.ite ?_ ?_)
      | (with_reducible refine LeO.bind ?_ (fun _ => ?_))
      | exact ih0 _ _ _
      | exact ih1 _ _ _ _ _
      | exact LeO.none _
      | refine LeO.ite ?_ ?_
      | refine LeO.bind ?_ (fun _ => ?_)
set_option maxHeartbeats 8000000 in
set_option maxRecDepth 100000 in
theorem letterboxref04_More.calls (k : Nat) (a0 : Int) (a1 : ByteArray) (r : Int) (w : World) (h : letterboxref04_More.f k a0 a1 = some r) :
    Calls Try.prog 10 #[.int .u32 a0, .string a1] w fun e w' => e = .returned (.int .u32 r) ∧ Drawn0 w w' := by
  have H : (letterboxref04_More.l0 k a1 ((4294967295 - a0) % 4294967296) 0) = some r := h
  clear h
  have H' := Aside0.mk H
  clear H
  go_enter Try.func10, Try.ntmps10
  go_wp2
  go_loopg [5, 6] k (fun kq v5 v6 w' => ∃ (x5_1 : Int) (x6_1 : Int), v5 = .int .u32 x5_1 ∧ v6 = .int .i64 x6_1 ∧ Aside0 (letterboxref04_More.l0 kq a1 x5_1 x6_1 = some r) ∧ Aside0 (kq ≤ k) ∧ Drawn0 w w')
  case atStart => exact ⟨((4294967295 - a0) % 4294967296), (0), (by first | rfl | (simp; done) | (simp [*]; done)), (by first | rfl | (simp; done) | (simp [*]; done)), H', ⟨Nat.le_refl _⟩, by repeat (first | exact Drawn0.refl _ | apply Drawn0.step)⟩
  case round =>
    clear H'
    try clear c1
    try clear p2
    obtain ⟨x5_1, x6_1, rfl, rfl, HA, HK1, ⟨m1, rfl⟩⟩ := hrel
    cases gk with
    | zero => exact absurd HA.out (by simp [letterboxref04_More.l0])
    | succ k1 =>
      have H := HA.out
      clear HA
      simp only [letterboxref04_More.l0] at H
      by_cases c3 : x6_1 < (a1.size : Int)
      · rw [if_pos c3] at H
        have c3b0 : decide (x6_1 < (a1.size : Int)) = true := decide_eq_true c3
        clear c3
        by_cases c4 : 0 ≤ x6_1
        · rw [if_pos c4] at H
          have c4b0 : decide (0 ≤ x6_1) = true := decide_eq_true c4
          clear c4
          have H' := Aside0.mk H
          clear H
          have p5 : 0 ≤ (x6_1 : Int) := of_decide_eq_true (by first | (with_reducible assumption) | assumption)
          have q5 : x6_1 < (a1.size : Int) := of_decide_eq_true (by first | (with_reducible assumption) | assumption)
          have hx5 := bt_at a1 x6_1
          replace p5 := eq_true p5
          replace q5 := eq_true q5
          go_wp2
          go_loopg [5, 7, 8] k1 (fun kq v5 v7 v8 w' => ∃ (x5_2 : Int) (x7_2 : Int) (x8_2 : Int), v5 = .int .u32 x5_2 ∧ v7 = .int .u8 x7_2 ∧ v8 = .int .i64 x8_2 ∧ Aside0 (letterboxref04_More.l1 kq a1 x5_2 x6_1 x7_2 x8_2 = some r) ∧ Aside0 (kq ≤ k1) ∧ Drawn0 w w')
          case atStart => exact ⟨(x5_1), (bt a1 x6_1), (0), (by first | rfl | (simp; done) | (simp [*]; done)), (by first | rfl | (simp; done) | (simp [*]; done)), (by first | rfl | (simp; done) | (simp [*]; done)), H', ⟨Nat.le_refl _⟩, by repeat (first | exact Drawn0.refl _ | apply Drawn0.step)⟩
          case round =>
            clear H'
            try clear c1
            try clear p2
            try clear c3
            try clear c3b0
            try clear c4
            try clear c4b0
            try clear p5
            try clear q5
            try clear hx5
            try clear p2
            try clear p5
            try clear q5
            obtain ⟨x5_2, x7_2, x8_2, rfl, rfl, rfl, HA, HK2, ⟨m2, rfl⟩⟩ := hrel
            cases gk with
            | zero => exact absurd HA.out (by simp [letterboxref04_More.l1])
            | succ k2 =>
              have H := HA.out
              clear HA
              simp only [letterboxref04_More.l1] at H
              by_cases c6 : x8_2 < 8
              · rw [if_pos c6] at H
                have c6b0 : decide (x8_2 < 8) = true := decide_eq_true c6
                clear c6
                by_cases c7 : (Int.tmod (Go.bits .xor .u32 x5_2 ((Int.tmod x7_2 2) % 4294967296)) 2) = 1
                · rw [if_pos c7] at H
                  have c7b0 : ((Int.tmod (Go.bits .xor .u32 x5_2 ((Int.tmod x7_2 2) % 4294967296)) 2) == 1) = true := beq_iff_eq.mpr c7
                  have c7b1 : ((Int.tmod (Go.bits .xor .u32 x5_2 ((Int.tmod x7_2 2) % 4294967296)) 2) != 1) = false := bne_eq_false_iff_eq.mpr c7
                  clear c7
                  have H' := Aside0.mk H
                  clear H
                  go_wp2
                  go_roundg k2
                  case measure => have := HK1.out; have := HK2.out; omega
                  case rel => exact ⟨(Go.bits .xor .u32 ((Int.tdiv (Go.bits .xor .u32 x5_2 ((Int.tmod x7_2 2) % 4294967296)) 2) % 4294967296) 3988292384), ((Int.tdiv x7_2 2) % 256), (wrap64 (x8_2 + 1)), (by first | rfl | (simp; done) | (simp [*]; done)), (by first | rfl | (simp; done) | (simp [*]; done)), (by first | rfl | (simp; done) | (simp [*]; done)), H', ⟨by have := HK1.out; have := HK2.out; omega⟩, by repeat (first | exact Drawn0.refl _ | apply Drawn0.step)⟩
                · rw [if_neg c7] at H
                  have c7b0 : ((Int.tmod (Go.bits .xor .u32 x5_2 ((Int.tmod x7_2 2) % 4294967296)) 2) == 1) = false := beq_eq_false_iff_ne.mpr c7
                  have c7b1 : ((Int.tmod (Go.bits .xor .u32 x5_2 ((Int.tmod x7_2 2) % 4294967296)) 2) != 1) = true := bne_iff_ne.mpr c7
                  have H' := Aside0.mk H
                  clear H
                  go_wp2
                  go_roundg k2
                  case measure => have := HK1.out; have := HK2.out; omega
                  case rel => exact ⟨((Int.tdiv (Go.bits .xor .u32 x5_2 ((Int.tmod x7_2 2) % 4294967296)) 2) % 4294967296), ((Int.tdiv x7_2 2) % 256), (wrap64 (x8_2 + 1)), (by first | rfl | (simp; done) | (simp [*]; done)), (by first | rfl | (simp; done) | (simp [*]; done)), (by first | rfl | (simp; done) | (simp [*]; done)), H', ⟨by have := HK1.out; have := HK2.out; omega⟩, by repeat (first | exact Drawn0.refl _ | apply Drawn0.step)⟩
              · rw [if_neg c6] at H
                have c6b0 : decide (x8_2 < 8) = false := decide_eq_false c6
                clear c6
                have H' := Aside0.mk H
                clear H
                go_wp2
                go_roundg k2
                case measure => have := HK1.out; have := HK2.out; omega
                case rel => exact ⟨(x5_2), (wrap64 (x6_1 + 1)), (by first | rfl | (simp; done) | (simp [*]; done)), (by first | rfl | (simp; done) | (simp [*]; done)), H', ⟨by have := HK1.out; have := HK2.out; omega⟩, by repeat (first | exact Drawn0.refl _ | apply Drawn0.step)⟩
        · rw [if_neg c4] at H
          exact absurd H (by simp)
      · rw [if_neg c3] at H
        have c3b0 : decide (x6_1 < (a1.size : Int)) = false := decide_eq_false c3
        clear c3
        obtain rfl := Option.some.inj H
        go_wp2
        go_ret
        exact ⟨by first | rfl | (simp; done) | (simp [*]; done), by repeat (first | exact Drawn0.refl _ | apply Drawn0.step)⟩

/-! ### letterboxref04_Of: function 12 -/
def letterboxref04_Of.f (k : Nat) (a0 : ByteArray) : Option (Int) := (letterboxref04_More.f k 0 a0).bind fun t102 => (some t102)
theorem letterboxref04_Of.mono : ∀ a0 k, LeO (letterboxref04_Of.f k a0) (letterboxref04_Of.f (k + 1) a0) := by
  intro a0 k
  unfold letterboxref04_Of.f
  repeat' first
      | (with_reducible exact letterboxref04_More.mono _ _ _)
      | (with_reducible exact LeO.refl _)
      | (with_reducible exact LeO.none _)
      | (with_reducible refine LeO.ite ?_ ?_)
      | (with_reducible refine LeO.bind ?_ (fun _ => ?_))
      | exact letterboxref04_More.mono _ _ _
      | exact LeO.none _
      | refine LeO.ite ?_ ?_
      | refine LeO.bind ?_ (fun _ => ?_)
set_option maxHeartbeats 8000000 in
set_option maxRecDepth 100000 in
theorem letterboxref04_Of.calls (k : Nat) (a0 : ByteArray) (r : Int) (w : World) (h : letterboxref04_Of.f k a0 = some r) :
    Calls Try.prog 12 #[.string a0] w fun e w' => e = .returned (.int .u32 r) ∧ Drawn0 w w' := by
  have H : ((letterboxref04_More.f k 0 a0).bind fun t102 => (some t102)) = some r := h
  clear h
  replace H := Option.bind_eq_some_iff.mp H
  obtain ⟨t102, A20, H⟩ := H
  replace H : (some t102) = some r := H
  have A2 := Aside0.mk A20
  clear A20
  obtain rfl := Option.some.inj H
  go_enter Try.func12, Try.ntmps12
  go_wp2_with (first | ((with_reducible refine gate_callee (f := 10) rfl ?_); refine goesL_ (some 4) rfl rfl Try.func10 (by kernel_rfl) rfl #[.int .u32 0, .string a0] rfl (by (try simp only [List.map_toArray, List.map_cons, List.map_nil]); first | done | rfl | (simp only [List.length_drop, List.length_take]; rfl)) ?_; (with_reducible refine (letterboxref04_More.calls k 0 a0 t102 _ A2.out).mono ?_); rintro e w' ⟨rfl, ⟨nd, rfl⟩⟩; refine ⟨_, rfl, ?_⟩))
  go_ret
  exact ⟨by first | rfl | (simp; done) | (simp [*]; done), by repeat (first | exact Drawn0.refl _ | apply Drawn0.step)⟩

end Go.Proofs.Yteakllmajhnhpaa.P
