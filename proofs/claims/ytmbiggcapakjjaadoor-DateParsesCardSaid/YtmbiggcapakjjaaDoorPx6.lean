-- Written by a program of this session (wip/tools/mk.sh) for this claim: it runs the kit's print with contracts of our own. Lean checks it.
import Derived.Test.YtmbiggcapakjjaaDoorPx0
import Derived.Test.YtmbiggcapakjjaaDoorWRepsOne
import Derived.Test.YtmbiggcapakjjaaDoorWTab
import Derived.Test.YtmbiggcapakjjaaDoorZSplit
import Derived.Test.YtmbiggcapakjjaaDoorPx1
import Derived.Test.YtmbiggcapakjjaaDoorPx2
import Derived.Test.YtmbiggcapakjjaaDoorPx3
import Derived.Test.YtmbiggcapakjjaaDoorPx4
namespace Go.Proofs.YtmbiggcapakjjaaDoor.P
open Go.RowKit Go.Proofs.YtmbiggcapakjjaaDoorW.PrintWords Go.Proofs.YtmbiggcapakjjaaDoorW.PrintLast Go.Proofs.YtmbiggcapakjjaaDoorW.PrintMore
attribute [-simp] Int.tmod_tmod_of_dvd
attribute [local go_sem] max2_int min2_int max_two min_two max_three min_three max_four min_four   -- for this text's walks alone
set_option linter.unusedVariables false
set_option linter.unusedSimpArgs false

/-! ### date_ParseInternal: function 10 -/
mutual
def date_ParseInternal.j0 : Nat → ByteArray → Bool → Option (Int × Int × Bool)
 | 0, _, _ => none
 | k + 1, x0, x44 => if x44 = true then (some (0, 0, false)) else (if 1 ≤ 3 then (if 3 ≤ (x0.size : Int) then ((date_digits.f k (x0.extract 1 3) (([2] : List Int))).bind fun t182 => (if 1 < (x0.size : Int) then (if (bt x0 1) = 32 then (if 2 ≤ 3 then ((date_digits.f k (x0.extract 2 3) (([1] : List Int))).bind fun t186 => (date_ParseInternal.j1 k x0 t186)) else (none)) else (date_ParseInternal.j1 k x0 t182)) else (none))) else (none)) else (none))
def date_ParseInternal.j1 : Nat → ByteArray → Int → Option (Int × Int × Bool)
 | 0, _, _ => none
 | k + 1, x0, x4 => if 4 ≤ 7 then (if 7 ≤ (x0.size : Int) then ((date_month.f (x0.extract 4 7)).bind fun t187 => (if 8 ≤ 12 then (if 12 ≤ (x0.size : Int) then ((date_digits.f k (x0.extract 8 12) (([4] : List Int))).bind fun t191 => (if 13 ≤ 21 then (if 21 ≤ (x0.size : Int) then ((date_clock.f k (x0.extract 13 21) 59 (([3] : List Int))).bind fun t195 => (if 22 ≤ 27 then (if 27 ≤ (x0.size : Int) then ((date_offset.f k (x0.extract 22 27)).bind fun bt196 => (if t187 < 0 then (date_ParseInternal.j2 k x4 t187 t191 t195 bt196.1 true) else (if t195 < 0 then (date_ParseInternal.j2 k x4 t187 t191 t195 bt196.1 true) else (date_ParseInternal.j2 k x4 t187 t191 t195 bt196.1 (!bt196.2))))) else (none)) else (none))) else (none)) else (none))) else (none)) else (none))) else (none)) else (none)
def date_ParseInternal.j2 : Nat → Int → Int → Int → Int → Int → Bool → Option (Int × Int × Bool)
 | 0, _, _, _, _, _, _ => none
 | k + 1, x4, x5, x6, x7, x8, x83 => if x83 = true then (some (0, 0, false)) else ((date_number.f k x6 x5 x4).bind fun bt198 => (if bt198.2 = true then ((date_moment.f bt198.1 x7 x8).bind fun bt200 => (some (bt200.1, bt200.2, true))) else (some (0, 0, false))))
end
def date_ParseInternal.f (k : Nat) (a0 : ByteArray) : Option (Int × Int × Bool) := if (a0.size : Int) = 28 then (if 0 < (a0.size : Int) then (if (bt a0 0) = 34 then (if 27 < (a0.size : Int) then (if (bt a0 27) = 34 then (if 3 < (a0.size : Int) then (if (bt a0 3) = 45 then (if 7 < (a0.size : Int) then (if (bt a0 7) = 45 then (if 12 < (a0.size : Int) then (if (bt a0 12) = 32 then (if 21 < (a0.size : Int) then (date_ParseInternal.j0 k a0 ((bt a0 21) != 32)) else (none)) else (date_ParseInternal.j0 k a0 true)) else (none)) else (date_ParseInternal.j0 k a0 true)) else (none)) else (date_ParseInternal.j0 k a0 true)) else (none)) else (date_ParseInternal.j0 k a0 true)) else (none)) else (date_ParseInternal.j0 k a0 true)) else (none)) else (date_ParseInternal.j0 k a0 true)
theorem date_ParseInternal.mono_l : ∀ k, (∀ y0 y1, LeO (date_ParseInternal.j0 k y0 y1) (date_ParseInternal.j0 (k + 1) y0 y1)) ∧ (∀ y0 y1, LeO (date_ParseInternal.j1 k y0 y1) (date_ParseInternal.j1 (k + 1) y0 y1)) ∧ (∀ y0 y1 y2 y3 y4 y5, LeO (date_ParseInternal.j2 k y0 y1 y2 y3 y4 y5) (date_ParseInternal.j2 (k + 1) y0 y1 y2 y3 y4 y5))
 | 0 => ⟨fun _ _ r h => by simp [date_ParseInternal.j0] at h, fun _ _ r h => by simp [date_ParseInternal.j1] at h, fun _ _ _ _ _ _ r h => by simp [date_ParseInternal.j2] at h⟩
 | k + 1 => by
  obtain ⟨ih0, ih1, ih2⟩ := date_ParseInternal.mono_l k
  refine ⟨?_, ?_, ?_⟩
  ·intro y0 y1
   unfold date_ParseInternal.j0
   repeat' first
   | (with_reducible exact ih0 _ _)
   | (with_reducible exact ih1 _ _)
   | (with_reducible exact ih2 _ _ _ _ _ _)
   | (with_reducible exact date_clock.mono _ _ _ _)
   | (with_reducible exact date_digits.mono _ _ _)
   | (with_reducible exact date_number.mono _ _ _ _)
   | (with_reducible exact date_offset.mono _ _)
   | (with_reducible exact LeO.refl _)
   | (with_reducible exact LeO.none _)
   | (with_reducible refine LeO.ite ?_ ?_)
   | (with_reducible refine LeO.bind ?_ (fun _ => ?_))
   | exact ih0 _ _
   | exact ih1 _ _
   | exact ih2 _ _ _ _ _ _
   | exact date_clock.mono _ _ _ _
   | exact date_digits.mono _ _ _
   | exact date_number.mono _ _ _ _
   | exact date_offset.mono _ _
   | exact LeO.none _
   | refine LeO.ite ?_ ?_
   | refine LeO.bind ?_ (fun _ => ?_)
  ·intro y0 y1
   unfold date_ParseInternal.j1
   repeat' first
   | (with_reducible exact ih0 _ _)
   | (with_reducible exact ih1 _ _)
   | (with_reducible exact ih2 _ _ _ _ _ _)
   | (with_reducible exact date_clock.mono _ _ _ _)
   | (with_reducible exact date_digits.mono _ _ _)
   | (with_reducible exact date_number.mono _ _ _ _)
   | (with_reducible exact date_offset.mono _ _)
   | (with_reducible exact LeO.refl _)
   | (with_reducible exact LeO.none _)
   | (with_reducible refine LeO.ite ?_ ?_)
   | (with_reducible refine LeO.bind ?_ (fun _ => ?_))
   | exact ih0 _ _
   | exact ih1 _ _
   | exact ih2 _ _ _ _ _ _
   | exact date_clock.mono _ _ _ _
   | exact date_digits.mono _ _ _
   | exact date_number.mono _ _ _ _
   | exact date_offset.mono _ _
   | exact LeO.none _
   | refine LeO.ite ?_ ?_
   | refine LeO.bind ?_ (fun _ => ?_)
  ·intro y0 y1 y2 y3 y4 y5
   unfold date_ParseInternal.j2
   repeat' first
   | (with_reducible exact ih0 _ _)
   | (with_reducible exact ih1 _ _)
   | (with_reducible exact ih2 _ _ _ _ _ _)
   | (with_reducible exact date_clock.mono _ _ _ _)
   | (with_reducible exact date_digits.mono _ _ _)
   | (with_reducible exact date_number.mono _ _ _ _)
   | (with_reducible exact date_offset.mono _ _)
   | (with_reducible exact LeO.refl _)
   | (with_reducible exact LeO.none _)
   | (with_reducible refine LeO.ite ?_ ?_)
   | (with_reducible refine LeO.bind ?_ (fun _ => ?_))
   | exact ih0 _ _
   | exact ih1 _ _
   | exact ih2 _ _ _ _ _ _
   | exact date_clock.mono _ _ _ _
   | exact date_digits.mono _ _ _
   | exact date_number.mono _ _ _ _
   | exact date_offset.mono _ _
   | exact LeO.none _
   | refine LeO.ite ?_ ?_
   | refine LeO.bind ?_ (fun _ => ?_)
theorem date_ParseInternal.mono : ∀ a0 k, LeO (date_ParseInternal.f k a0) (date_ParseInternal.f (k + 1) a0) := by
 intro a0 k
 obtain ⟨ih0, ih1, ih2⟩ := date_ParseInternal.mono_l k
 unfold date_ParseInternal.f
 repeat' first
   | (with_reducible exact ih0 _ _)
   | (with_reducible exact ih1 _ _)
   | (with_reducible exact ih2 _ _ _ _ _ _)
   | (with_reducible exact date_clock.mono _ _ _ _)
   | (with_reducible exact date_digits.mono _ _ _)
   | (with_reducible exact date_number.mono _ _ _ _)
   | (with_reducible exact date_offset.mono _ _)
   | (with_reducible exact LeO.refl _)
   | (with_reducible exact LeO.none _)
   | (with_reducible refine LeO.ite ?_ ?_)
   | (with_reducible refine LeO.bind ?_ (fun _ => ?_))
   | exact ih0 _ _
   | exact ih1 _ _
   | exact ih2 _ _ _ _ _ _
   | exact date_clock.mono _ _ _ _
   | exact date_digits.mono _ _ _
   | exact date_number.mono _ _ _ _
   | exact date_offset.mono _ _
   | exact LeO.none _
   | refine LeO.ite ?_ ?_
   | refine LeO.bind ?_ (fun _ => ?_)
def date_ParseInternal.T6 : Bool × List (List Nat × List Nat) := (true, [([], []), ([0], [0]), ([1], [1]), ([], []), ([3], [3]), ([], []), ([4, 5, 2], [4, 5]), ([2, 6, 0, 1, 2], [2]), ([6, 7, 0, 1, 2, 3, 4, 5, 6, 7], [6])])
def date_ParseInternal.B6 : List Nat := [0, 1, 3, 0, 8, 0, 63, 127, 255]
theorem date_ParseInternal.tab6 : rtab .any (opsOf Tryd.f10 6) = date_ParseInternal.T6 := by kernel_rfl
theorem date_ParseInternal.bits6 : waitsOk date_ParseInternal.T6.2 date_ParseInternal.B6 = true := by kernel_rfl
set_option maxHeartbeats 8000000 in
set_option maxRecDepth 100000 in
theorem date_ParseInternal.calls (k : Nat) (a0 : ByteArray) (r1 : Int) (r2 : Int) (r3 : Bool) (w : World) (h : date_ParseInternal.f k a0 = some (r1, r2, r3)) (hL0 : mo_Words w := by first | exact hL0 | exact mo_Words.below hL0 (by repeat (first | (with_reducible first | exact HB.out | apply below_alloc | apply pw_below_drewN | apply below_drew1 | refine below_set ?_ (Aside0.out (by assumption))) | exact HB.out))) :
  Calls Tryd.prog 10 #[.string a0] w fun e w' => e = .returned (.tuple #[.agg #[.int .i64 r1, .int .i64 r2], .bool r3]) ∧ Below w.heap.size w w' := by
 have hu24 := Tryd.underlying24
 have hw8_ : ∀ x_ : Int, IntKind.u8.wrap x_ = x_ % 256 := IntKind.wrap_u8
 have HB := Aside0.mk (Below.refl w.heap.size w)
 have H : (if (a0.size : Int) = 28 then (if 0 < (a0.size : Int) then (if (bt a0 0) = 34 then (if 27 < (a0.size : Int) then (if (bt a0 27) = 34 then (if 3 < (a0.size : Int) then (if (bt a0 3) = 45 then (if 7 < (a0.size : Int) then (if (bt a0 7) = 45 then (if 12 < (a0.size : Int) then (if (bt a0 12) = 32 then (if 21 < (a0.size : Int) then (date_ParseInternal.j0 k a0 ((bt a0 21) != 32)) else (none)) else (date_ParseInternal.j0 k a0 true)) else (none)) else (date_ParseInternal.j0 k a0 true)) else (none)) else (date_ParseInternal.j0 k a0 true)) else (none)) else (date_ParseInternal.j0 k a0 true)) else (none)) else (date_ParseInternal.j0 k a0 true)) else (none)) else (date_ParseInternal.j0 k a0 true)) = some (r1, r2, r3) := h
 clear h
 have HC2 := Aside0.mk H
 clear H
 go_enter Tryd.func10, Tryd.ntmps10
 go_upto_region 1 with (first | ((with_reducible refine gate_dst (N := 2) rfl ?_); refine box_event ?hg (N := 2) ?hd (cs := #[.int .i64 0, .int .i64 0]) (t := 24) ?hr ?_; (case hd => rfl); (case hg => rfl); (case hr => first | (go_simp; done) | (go_simp; rfl)); intro gb178 hg w3 hbox hb; have n0_ := Aside0.mk (below_step (qb_ HB.out) hb); have n1_ := Aside0.mk (hbox); have n2_ := Aside0.mk ((by rw [hg]; exact (below_size (qb_ HB.out)) : w.heap.size ≤ gb178)); have n3_ := Aside0.mk ((by rw [hg]; exact (below_size (qb_ HB.out)) : w.heap.size ≤ gb178)); clear HB; have HB := n0_; have BK178 := n1_; have GW178 := n2_; have GE178 := n3_; clear n0_ n1_ n2_ n3_; clear hb hbox hg))
 (try simp only [Act.put, List.setIfInBounds_toArray, List.set_cons_zero, List.set_cons_succ])
 go_cut [44] (fun v44 wc => ∃ (kq : Nat) (x44_1 : Bool), v44 = .bool x44_1 ∧ Aside0 (date_ParseInternal.j0 kq a0 x44_1 = some (r1, r2, r3)) ∧ Aside0 (kq ≤ k) ∧ Aside0 (wc.heap[gb178]? = some (.cells #[.int .i64 0, .int .i64 0] 24 (0, 0))) ∧ Aside0 (Below w.heap.size w wc))
 case first =>
  have H := HC2.out
  clear HC2
  by_cases c4 : (a0.size : Int) = 28
  ·rw [if_pos c4] at H
   have c4b0 : ((a0.size : Int) == 28) = true := beq_iff_eq.mpr c4
   have c4b1 : ((a0.size : Int) != 28) = false := bne_eq_false_iff_eq.mpr c4
   clear c4
   (first | rw [c4b0] | (simp only [i64_w, i32_w]; rw [c4b0]) | skip)
   by_cases c5 : 0 < (a0.size : Int)
   ·rw [if_pos c5] at H
    have c5b0 : decide (0 < (a0.size : Int)) = true := decide_eq_true c5
    have c5b1 : decide (0 < a0.size) = true := decide_eq_true (by omega)
    clear c5
    by_cases c7 : (bt a0 0) = 34
    ·rw [if_pos c7] at H
     have c7b0 : ((bt a0 0) == 34) = true := beq_iff_eq.mpr c7
     have c7b1 : ((bt a0 0) != 34) = false := bne_eq_false_iff_eq.mpr c7
     clear c7
     by_cases c8 : 27 < (a0.size : Int)
     ·rw [if_pos c8] at H
      have c8b0 : decide (27 < (a0.size : Int)) = true := decide_eq_true c8
      have c8b1 : decide (27 < a0.size) = true := decide_eq_true (by omega)
      clear c8
      by_cases c10 : (bt a0 27) = 34
      ·rw [if_pos c10] at H
       have c10b0 : ((bt a0 27) == 34) = true := beq_iff_eq.mpr c10
       have c10b1 : ((bt a0 27) != 34) = false := bne_eq_false_iff_eq.mpr c10
       clear c10
       by_cases c11 : 3 < (a0.size : Int)
       ·rw [if_pos c11] at H
        have c11b0 : decide (3 < (a0.size : Int)) = true := decide_eq_true c11
        have c11b1 : decide (3 < a0.size) = true := decide_eq_true (by omega)
        clear c11
        by_cases c13 : (bt a0 3) = 45
        ·rw [if_pos c13] at H
         have c13b0 : ((bt a0 3) == 45) = true := beq_iff_eq.mpr c13
         have c13b1 : ((bt a0 3) != 45) = false := bne_eq_false_iff_eq.mpr c13
         clear c13
         by_cases c14 : 7 < (a0.size : Int)
         ·rw [if_pos c14] at H
          have c14b0 : decide (7 < (a0.size : Int)) = true := decide_eq_true c14
          have c14b1 : decide (7 < a0.size) = true := decide_eq_true (by omega)
          clear c14
          by_cases c16 : (bt a0 7) = 45
          ·rw [if_pos c16] at H
           have c16b0 : ((bt a0 7) == 45) = true := beq_iff_eq.mpr c16
           have c16b1 : ((bt a0 7) != 45) = false := bne_eq_false_iff_eq.mpr c16
           clear c16
           by_cases c17 : 12 < (a0.size : Int)
           ·rw [if_pos c17] at H
            have c17b0 : decide (12 < (a0.size : Int)) = true := decide_eq_true c17
            have c17b1 : decide (12 < a0.size) = true := decide_eq_true (by omega)
            clear c17
            by_cases c19 : (bt a0 12) = 32
            ·rw [if_pos c19] at H
             have c19b0 : ((bt a0 12) == 32) = true := beq_iff_eq.mpr c19
             have c19b1 : ((bt a0 12) != 32) = false := bne_eq_false_iff_eq.mpr c19
             clear c19
             by_cases c20 : 21 < (a0.size : Int)
             ·rw [if_pos c20] at H
              have c20b0 : decide (21 < (a0.size : Int)) = true := decide_eq_true c20
              have c20b1 : decide (21 < a0.size) = true := decide_eq_true (by omega)
              clear c20
              have H' := Aside0.mk H
              clear H
              have p6 : 0 ≤ (0 : Int) := (by omega)
              have q6 : 0 < a0.size := (by have : (0 : Int) < (a0.size : Int) := qd_; omega)
              have hx6 : ∀ h : 0 < a0.size, ((a0[0]'h).toNat : Int) = bt a0 0 := bt_at a0 0
              clear p6
              have qi6 : (0 < (a0.size : Int)) = True := eq_true (qd_)
              replace q6 := eq_true q6
              have p9 : 0 ≤ (27 : Int) := (by omega)
              have q9 : 27 < a0.size := (by have : (27 : Int) < (a0.size : Int) := qd_; omega)
              have hx9 : ∀ h : 27 < a0.size, ((a0[27]'h).toNat : Int) = bt a0 27 := bt_at a0 27
              clear p9
              have qi9 : (27 < (a0.size : Int)) = True := eq_true (qd_)
              replace q9 := eq_true q9
              have p12 : 0 ≤ (3 : Int) := (by omega)
              have q12 : 3 < a0.size := (by have : (3 : Int) < (a0.size : Int) := qd_; omega)
              have hx12 : ∀ h : 3 < a0.size, ((a0[3]'h).toNat : Int) = bt a0 3 := bt_at a0 3
              clear p12
              have qi12 : (3 < (a0.size : Int)) = True := eq_true (qd_)
              replace q12 := eq_true q12
              have p15 : 0 ≤ (7 : Int) := (by omega)
              have q15 : 7 < a0.size := (by have : (7 : Int) < (a0.size : Int) := qd_; omega)
              have hx15 : ∀ h : 7 < a0.size, ((a0[7]'h).toNat : Int) = bt a0 7 := bt_at a0 7
              clear p15
              have qi15 : (7 < (a0.size : Int)) = True := eq_true (qd_)
              replace q15 := eq_true q15
              have p18 : 0 ≤ (12 : Int) := (by omega)
              have q18 : 12 < a0.size := (by have : (12 : Int) < (a0.size : Int) := qd_; omega)
              have hx18 : ∀ h : 12 < a0.size, ((a0[12]'h).toNat : Int) = bt a0 12 := bt_at a0 12
              clear p18
              have qi18 : (12 < (a0.size : Int)) = True := eq_true (qd_)
              replace q18 := eq_true q18
              have p21 : 0 ≤ (21 : Int) := (by omega)
              have q21 : 21 < a0.size := (by have : (21 : Int) < (a0.size : Int) := qd_; omega)
              have hx21 : ∀ h : 21 < a0.size, ((a0[21]'h).toNat : Int) = bt a0 21 := bt_at a0 21
              clear p21
              have qi21 : (21 < (a0.size : Int)) = True := eq_true (qd_)
              replace q21 := eq_true q21
              go_wp2
              go_meet
              case rel => exact ⟨_, (((bt a0 21) != 32)), qr_, H', ⟨by first | omega | exact Nat.le_refl _⟩, ⟨qk_ BK178.out⟩, ⟨qb_ HB.out⟩⟩
             ·rw [if_neg c20] at H
              exact absurd H (by simp)
            ·rw [if_neg c19] at H
             have c19b0 : ((bt a0 12) == 32) = false := beq_eq_false_iff_ne.mpr c19
             have c19b1 : ((bt a0 12) != 32) = true := bne_iff_ne.mpr c19
             have H' := Aside0.mk H
             clear H
             have p6 : 0 ≤ (0 : Int) := (by omega)
             have q6 : 0 < a0.size := (by have : (0 : Int) < (a0.size : Int) := qd_; omega)
             have hx6 : ∀ h : 0 < a0.size, ((a0[0]'h).toNat : Int) = bt a0 0 := bt_at a0 0
             clear p6
             have qi6 : (0 < (a0.size : Int)) = True := eq_true (qd_)
             replace q6 := eq_true q6
             have p9 : 0 ≤ (27 : Int) := (by omega)
             have q9 : 27 < a0.size := (by have : (27 : Int) < (a0.size : Int) := qd_; omega)
             have hx9 : ∀ h : 27 < a0.size, ((a0[27]'h).toNat : Int) = bt a0 27 := bt_at a0 27
             clear p9
             have qi9 : (27 < (a0.size : Int)) = True := eq_true (qd_)
             replace q9 := eq_true q9
             have p12 : 0 ≤ (3 : Int) := (by omega)
             have q12 : 3 < a0.size := (by have : (3 : Int) < (a0.size : Int) := qd_; omega)
             have hx12 : ∀ h : 3 < a0.size, ((a0[3]'h).toNat : Int) = bt a0 3 := bt_at a0 3
             clear p12
             have qi12 : (3 < (a0.size : Int)) = True := eq_true (qd_)
             replace q12 := eq_true q12
             have p15 : 0 ≤ (7 : Int) := (by omega)
             have q15 : 7 < a0.size := (by have : (7 : Int) < (a0.size : Int) := qd_; omega)
             have hx15 : ∀ h : 7 < a0.size, ((a0[7]'h).toNat : Int) = bt a0 7 := bt_at a0 7
             clear p15
             have qi15 : (7 < (a0.size : Int)) = True := eq_true (qd_)
             replace q15 := eq_true q15
             have p18 : 0 ≤ (12 : Int) := (by omega)
             have q18 : 12 < a0.size := (by have : (12 : Int) < (a0.size : Int) := qd_; omega)
             have hx18 : ∀ h : 12 < a0.size, ((a0[12]'h).toNat : Int) = bt a0 12 := bt_at a0 12
             clear p18
             have qi18 : (12 < (a0.size : Int)) = True := eq_true (qd_)
             replace q18 := eq_true q18
             go_wp2
             go_meet
             case rel => exact ⟨_, (true), qr_, H', ⟨by first | omega | exact Nat.le_refl _⟩, ⟨qk_ BK178.out⟩, ⟨qb_ HB.out⟩⟩
           ·rw [if_neg c17] at H
            exact absurd H (by simp)
          ·rw [if_neg c16] at H
           have c16b0 : ((bt a0 7) == 45) = false := beq_eq_false_iff_ne.mpr c16
           have c16b1 : ((bt a0 7) != 45) = true := bne_iff_ne.mpr c16
           have H' := Aside0.mk H
           clear H
           have p6 : 0 ≤ (0 : Int) := (by omega)
           have q6 : 0 < a0.size := (by have : (0 : Int) < (a0.size : Int) := qd_; omega)
           have hx6 : ∀ h : 0 < a0.size, ((a0[0]'h).toNat : Int) = bt a0 0 := bt_at a0 0
           clear p6
           have qi6 : (0 < (a0.size : Int)) = True := eq_true (qd_)
           replace q6 := eq_true q6
           have p9 : 0 ≤ (27 : Int) := (by omega)
           have q9 : 27 < a0.size := (by have : (27 : Int) < (a0.size : Int) := qd_; omega)
           have hx9 : ∀ h : 27 < a0.size, ((a0[27]'h).toNat : Int) = bt a0 27 := bt_at a0 27
           clear p9
           have qi9 : (27 < (a0.size : Int)) = True := eq_true (qd_)
           replace q9 := eq_true q9
           have p12 : 0 ≤ (3 : Int) := (by omega)
           have q12 : 3 < a0.size := (by have : (3 : Int) < (a0.size : Int) := qd_; omega)
           have hx12 : ∀ h : 3 < a0.size, ((a0[3]'h).toNat : Int) = bt a0 3 := bt_at a0 3
           clear p12
           have qi12 : (3 < (a0.size : Int)) = True := eq_true (qd_)
           replace q12 := eq_true q12
           have p15 : 0 ≤ (7 : Int) := (by omega)
           have q15 : 7 < a0.size := (by have : (7 : Int) < (a0.size : Int) := qd_; omega)
           have hx15 : ∀ h : 7 < a0.size, ((a0[7]'h).toNat : Int) = bt a0 7 := bt_at a0 7
           clear p15
           have qi15 : (7 < (a0.size : Int)) = True := eq_true (qd_)
           replace q15 := eq_true q15
           go_wp2
           go_meet
           case rel => exact ⟨_, (true), qr_, H', ⟨by first | omega | exact Nat.le_refl _⟩, ⟨qk_ BK178.out⟩, ⟨qb_ HB.out⟩⟩
         ·rw [if_neg c14] at H
          exact absurd H (by simp)
        ·rw [if_neg c13] at H
         have c13b0 : ((bt a0 3) == 45) = false := beq_eq_false_iff_ne.mpr c13
         have c13b1 : ((bt a0 3) != 45) = true := bne_iff_ne.mpr c13
         have H' := Aside0.mk H
         clear H
         have p6 : 0 ≤ (0 : Int) := (by omega)
         have q6 : 0 < a0.size := (by have : (0 : Int) < (a0.size : Int) := qd_; omega)
         have hx6 : ∀ h : 0 < a0.size, ((a0[0]'h).toNat : Int) = bt a0 0 := bt_at a0 0
         clear p6
         have qi6 : (0 < (a0.size : Int)) = True := eq_true (qd_)
         replace q6 := eq_true q6
         have p9 : 0 ≤ (27 : Int) := (by omega)
         have q9 : 27 < a0.size := (by have : (27 : Int) < (a0.size : Int) := qd_; omega)
         have hx9 : ∀ h : 27 < a0.size, ((a0[27]'h).toNat : Int) = bt a0 27 := bt_at a0 27
         clear p9
         have qi9 : (27 < (a0.size : Int)) = True := eq_true (qd_)
         replace q9 := eq_true q9
         have p12 : 0 ≤ (3 : Int) := (by omega)
         have q12 : 3 < a0.size := (by have : (3 : Int) < (a0.size : Int) := qd_; omega)
         have hx12 : ∀ h : 3 < a0.size, ((a0[3]'h).toNat : Int) = bt a0 3 := bt_at a0 3
         clear p12
         have qi12 : (3 < (a0.size : Int)) = True := eq_true (qd_)
         replace q12 := eq_true q12
         go_wp2
         go_meet
         case rel => exact ⟨_, (true), qr_, H', ⟨by first | omega | exact Nat.le_refl _⟩, ⟨qk_ BK178.out⟩, ⟨qb_ HB.out⟩⟩
       ·rw [if_neg c11] at H
        exact absurd H (by simp)
      ·rw [if_neg c10] at H
       have c10b0 : ((bt a0 27) == 34) = false := beq_eq_false_iff_ne.mpr c10
       have c10b1 : ((bt a0 27) != 34) = true := bne_iff_ne.mpr c10
       have H' := Aside0.mk H
       clear H
       have p6 : 0 ≤ (0 : Int) := (by omega)
       have q6 : 0 < a0.size := (by have : (0 : Int) < (a0.size : Int) := qd_; omega)
       have hx6 : ∀ h : 0 < a0.size, ((a0[0]'h).toNat : Int) = bt a0 0 := bt_at a0 0
       clear p6
       have qi6 : (0 < (a0.size : Int)) = True := eq_true (qd_)
       replace q6 := eq_true q6
       have p9 : 0 ≤ (27 : Int) := (by omega)
       have q9 : 27 < a0.size := (by have : (27 : Int) < (a0.size : Int) := qd_; omega)
       have hx9 : ∀ h : 27 < a0.size, ((a0[27]'h).toNat : Int) = bt a0 27 := bt_at a0 27
       clear p9
       have qi9 : (27 < (a0.size : Int)) = True := eq_true (qd_)
       replace q9 := eq_true q9
       go_wp2
       go_meet
       case rel => exact ⟨_, (true), qr_, H', ⟨by first | omega | exact Nat.le_refl _⟩, ⟨qk_ BK178.out⟩, ⟨qb_ HB.out⟩⟩
     ·rw [if_neg c8] at H
      exact absurd H (by simp)
    ·rw [if_neg c7] at H
     have c7b0 : ((bt a0 0) == 34) = false := beq_eq_false_iff_ne.mpr c7
     have c7b1 : ((bt a0 0) != 34) = true := bne_iff_ne.mpr c7
     have H' := Aside0.mk H
     clear H
     have p6 : 0 ≤ (0 : Int) := (by omega)
     have q6 : 0 < a0.size := (by have : (0 : Int) < (a0.size : Int) := qd_; omega)
     have hx6 : ∀ h : 0 < a0.size, ((a0[0]'h).toNat : Int) = bt a0 0 := bt_at a0 0
     clear p6
     have qi6 : (0 < (a0.size : Int)) = True := eq_true (qd_)
     replace q6 := eq_true q6
     go_wp2
     go_meet
     case rel => exact ⟨_, (true), qr_, H', ⟨by first | omega | exact Nat.le_refl _⟩, ⟨qk_ BK178.out⟩, ⟨qb_ HB.out⟩⟩
   ·rw [if_neg c5] at H
    exact absurd H (by simp)
  ·rw [if_neg c4] at H
   have c4b0 : ((a0.size : Int) == 28) = false := beq_eq_false_iff_ne.mpr c4
   have c4b1 : ((a0.size : Int) != 28) = true := bne_iff_ne.mpr c4
   (first | rw [c4b0] | (simp only [i64_w, i32_w]; rw [c4b0]) | skip)
   have H' := Aside0.mk H
   clear H
   go_wp2
   go_meet
   case rel => exact ⟨_, (true), qr_, H', ⟨by first | omega | exact Nat.le_refl _⟩, ⟨qk_ BK178.out⟩, ⟨qb_ HB.out⟩⟩
 case rest =>
  clear HC2
  obtain ⟨kq, x44_1, rfl, HA, HJ1, BK178, HB⟩ := hcut
  cases kq with
  | zero => exact absurd HA.out (by simp [date_ParseInternal.j0])
  | succ kj1 =>
   have H := HA.out
   clear HA
   simp only [date_ParseInternal.j0] at H
   by_cases c22 : x44_1 = true
   ·subst c22
    have H1 : (some (0, 0, false)) = some (r1, r2, r3) := by rw [if_pos rfl] at H; exact H
    clear H
    have H := H1
    clear H1
    simp only [Option.some.injEq, Prod.mk.injEq] at H
    obtain ⟨rfl, rfl, rfl⟩ := H
    obtain ⟨hcz23_0, hcz23_1, hfz23_0, hfz23_1⟩ := cz2_ BK178.out
    go_wp2
    refine bodyPost_ret (results_ct rfl _ _ gb178 24 #[.int .i64 0, .int .i64 0] (0, 0) _ rfl (qs2_ (qk_ BK178.out)) Tryd.underlying24 rfl (by kernel_rfl)) rfl ?_
    exact ⟨qw_, qb_ HB.out⟩
   ·replace c22 := Bool.eq_false_iff.mpr c22
    subst c22
    have H1 : (if 1 ≤ 3 then (if 3 ≤ (a0.size : Int) then ((date_digits.f kj1 (a0.extract 1 3) (([2] : List Int))).bind fun t182 => (if 1 < (a0.size : Int) then (if (bt a0 1) = 32 then (if 2 ≤ 3 then ((date_digits.f kj1 (a0.extract 2 3) (([1] : List Int))).bind fun t186 => (date_ParseInternal.j1 kj1 a0 t186)) else (none)) else (date_ParseInternal.j1 kj1 a0 t182)) else (none))) else (none)) else (none)) = some (r1, r2, r3) := by rw [if_neg (show ¬ (false = true) by decide)] at H; exact H
    clear H
    have H := H1
    clear H1
    by_cases c24 : 1 ≤ 3
    ·rw [if_pos c24] at H
     have c24b0 := eq_true c24
     have c24b1 : decide (1 ≤ 3) = true := decide_eq_true c24
     clear c24
     by_cases c25 : 3 ≤ (a0.size : Int)
     ·rw [if_pos c25] at H
      have c25b0 := eq_true c25
      have c25b1 : decide (3 ≤ (a0.size : Int)) = true := decide_eq_true c25
      clear c25
      obtain ⟨y179, hy179⟩ : ∃ y_ : List Int, y_ = (([2] : List Int)) := ⟨_, rfl⟩
      replace H : ((date_digits.f kj1 (a0.extract 1 3) y179).bind fun t182 => (if 1 < (a0.size : Int) then (if (bt a0 1) = 32 then (if 2 ≤ 3 then ((date_digits.f kj1 (a0.extract 2 3) (([1] : List Int))).bind fun t186 => (date_ParseInternal.j1 kj1 a0 t186)) else (none)) else (date_ParseInternal.j1 kj1 a0 t182)) else (none))) = some (r1, r2, r3) := by first | (rw [hy179]; with_reducible exact H) | (have H2_ := (Option.bind_some _ _).symm.trans H; rw [hy179]; with_reducible exact H2_) | (have H2_ := (Option.bind_some _ _).symm.trans H; with_reducible exact H2_) | with_reducible exact H | (rw [hy179]; exact H) | exact H
      have Ny179 := Aside0.mk hy179
      clear hy179
      replace H := Option.bind_eq_some_iff.mp H
      obtain ⟨t182, A260, H⟩ := H
      replace H : (if 1 < (a0.size : Int) then (if (bt a0 1) = 32 then (if 2 ≤ 3 then ((date_digits.f kj1 (a0.extract 2 3) (([1] : List Int))).bind fun t186 => (date_ParseInternal.j1 kj1 a0 t186)) else (none)) else (date_ParseInternal.j1 kj1 a0 t182)) else (none)) = some (r1, r2, r3) := H
      have A26 := Aside0.mk A260
      clear A260
      by_cases c27 : 1 < (a0.size : Int)
      ·rw [if_pos c27] at H
       have c27b0 : decide (1 < (a0.size : Int)) = true := decide_eq_true c27
       have c27b1 : decide (1 < a0.size) = true := decide_eq_true (by omega)
       clear c27
       have HC29 := Aside0.mk H
       clear H
       go_upto_if 52 with (first | ((with_reducible refine gate_dst (N := 48) rfl ?_); refine Kd.R_lit (Kd.int .i64) _ 3 ?hg (N := 48) ?hd (xs := ([2] : List Int)) (inner := [.int .i64 2]) (ok := fun _ => True) (okp := fun _ => True) ?hr ?hp (fun _ hk => hk) trivial (Below.refl _ _) (Nat.le_refl _) (by simp) ?_; (case hd => rfl); (case hg => rfl); (case hr => first | (go_simp; done) | (go_simp; rfl)); (case hp => exact (Reps.one (show Kd.M (Kd.int .i64) _ _ _ 2 [.int .i64 2] from rfl) (Reps.none _ _))); intro v180 w30 ho31 hb hg_ hnew_; clear hg_ hnew_; (first | rw [← Ny179.out] at ho31 | (simp only [Int.reduceToNat] at ho31; rw [← Ny179.out] at ho31)); have n0_ := Aside0.mk (Kd.R_lower ho31 (below_size (qb_ HB.out))); have n1_ := Aside0.mk (blk_below (g := gb178) (o := .cells #[.int .i64 0, .int .i64 0] 24 (0, 0)) (qk_ BK178.out) hb); have n2_ := Aside0.mk (below_step (qb_ HB.out) hb); clear BK178; clear HB; have HO181 := n0_; have BK178 := n1_; have HB := n2_; clear n0_ n1_ n2_; clear hb ho31; obtain ⟨Ao32, co32, eo32⟩ := Kd.R_slice HO181.out; subst eo32) | ((with_reducible refine gate_callee (f := 25) rfl ?_); refine goesL_ (some 49) rfl rfl Tryd.func25 (by kernel_rfl) rfl #[.string (a0.extract 1 3), .slice Ao32 y179.length co32] rfl qa_ ?_; (with_reducible refine (date_digits.calls kj1 (a0.extract 1 3) _ _ y179 t182 _ ?side1 ?side2 A26.out).mono ?_); (case side1 => repeat (first | exact (Kd.R_reads' HO181.out).2.2 | (with_reducible refine Kd.C_alloc ?_ _) | (with_reducible refine Kd.C_drewN ?_ _) | (with_reducible refine Kd.C_drew ?_))); (case side2 => exact (Kd.R_reads' HO181.out).2.1); rintro e w' ⟨rfl, ⟨nd, rfl⟩⟩; refine ⟨_, rfl, ?_⟩; have p28 : 0 ≤ (1 : Int) := (by omega); have q28 : 1 < a0.size := (by have : (1 : Int) < (a0.size : Int) := qd_; omega); have hx28 : ∀ h : 1 < a0.size, ((a0[1]'h).toNat : Int) = bt a0 1 := bt_at a0 1; clear p28; have qi28 : (1 < (a0.size : Int)) = True := eq_true (qd_); replace q28 := eq_true q28))
       (try simp only [Act.put, List.setIfInBounds_toArray, List.set_cons_zero, List.set_cons_succ])
       go_cut [4] (fun v4 wc => ∃ (kq : Nat) (x4_28 : Int), v4 = .int .i64 x4_28 ∧ Aside0 (date_ParseInternal.j1 kq a0 x4_28 = some (r1, r2, r3)) ∧ Aside0 (kq ≤ kj1) ∧ Aside0 (wc.heap[gb178]? = some (.cells #[.int .i64 0, .int .i64 0] 24 (0, 0))) ∧ Aside0 (Below w.heap.size w wc))
       case first =>
        have H := HC29.out
        clear HC29
        by_cases c33 : (bt a0 1) = 32
        ·rw [if_pos c33] at H
         have c33b0 : ((bt a0 1) == 32) = true := beq_iff_eq.mpr c33
         have c33b1 : ((bt a0 1) != 32) = false := bne_eq_false_iff_eq.mpr c33
         clear c33
         (first | rw [c33b0] | (simp only [i64_w, i32_w]; rw [c33b0]) | skip)
         by_cases c34 : 2 ≤ 3
         ·rw [if_pos c34] at H
          have c34b0 := eq_true c34
          have c34b1 : decide (2 ≤ 3) = true := decide_eq_true c34
          clear c34
          have c35b0 := eq_true (qd_ : 3 ≤ (a0.size : Int))
          obtain ⟨y183, hy183⟩ : ∃ y_ : List Int, y_ = (([1] : List Int)) := ⟨_, rfl⟩
          replace H : ((date_digits.f kj1 (a0.extract 2 3) y183).bind fun t186 => (date_ParseInternal.j1 kj1 a0 t186)) = some (r1, r2, r3) := by first | (rw [hy183]; with_reducible exact H) | (have H2_ := (Option.bind_some _ _).symm.trans H; rw [hy183]; with_reducible exact H2_) | (have H2_ := (Option.bind_some _ _).symm.trans H; with_reducible exact H2_) | with_reducible exact H | (rw [hy183]; exact H) | exact H
          have Ny183 := Aside0.mk hy183
          clear hy183
          replace H := Option.bind_eq_some_iff.mp H
          obtain ⟨t186, A360, H⟩ := H
          replace H : (date_ParseInternal.j1 kj1 a0 t186) = some (r1, r2, r3) := H
          have A36 := Aside0.mk A360
          clear A360
          have H' := Aside0.mk H
          clear H
          go_wp2_with (first | ((with_reducible refine gate_dst (N := 55) rfl ?_); refine Kd.R_lit (Kd.int .i64) _ 3 ?hg (N := 55) ?hd (xs := ([1] : List Int)) (inner := [.int .i64 1]) (ok := fun _ => True) (okp := fun _ => True) ?hr ?hp (fun _ hk => hk) trivial (Below.refl _ _) (Nat.le_refl _) (by simp) ?_; (case hd => rfl); (case hg => rfl); (case hr => first | (go_simp; done) | (go_simp; rfl)); (case hp => exact (Reps.one (show Kd.M (Kd.int .i64) _ _ _ 1 [.int .i64 1] from rfl) (Reps.none _ _))); intro v184 w37 ho38 hb hg_ hnew_; clear hg_ hnew_; (first | rw [← Ny183.out] at ho38 | (simp only [Int.reduceToNat] at ho38; rw [← Ny183.out] at ho38)); have n0_ := Aside0.mk (Kd.R_elder' (ql_ HO181.out) (Kd.R_base ho38) hb); have n1_ := Aside0.mk (Kd.R_lower (Kd.R_new' ho38 (Kd.R_lt (ql_ HO181.out))) (below_size (qb_ HB.out))); have n2_ := Aside0.mk (blk_below (g := gb178) (o := .cells #[.int .i64 0, .int .i64 0] 24 (0, 0)) (qk_ BK178.out) hb); have n3_ := Aside0.mk (below_step (qb_ HB.out) hb); clear HO181; clear BK178; clear HB; have HO181 := n0_; have HO185 := n1_; have BK178 := n2_; have HB := n3_; clear n0_ n1_ n2_ n3_; clear hb ho38; obtain ⟨Ao39, co39, eo39⟩ := Kd.R_slice HO185.out; subst eo39) | ((with_reducible refine gate_callee (f := 25) rfl ?_); refine goesL_ (some 56) rfl rfl Tryd.func25 (by kernel_rfl) rfl #[.string (a0.extract 2 3), .slice Ao39 y183.length co39] rfl qa_ ?_; (with_reducible refine (date_digits.calls kj1 (a0.extract 2 3) _ _ y183 t186 _ ?side1 ?side2 A36.out).mono ?_); (case side1 => repeat (first | exact (Kd.R_reads' HO185.out).2.2 | (with_reducible refine Kd.C_alloc ?_ _) | (with_reducible refine Kd.C_drewN ?_ _) | (with_reducible refine Kd.C_drew ?_))); (case side2 => exact (Kd.R_reads' HO185.out).2.1); rintro e w' ⟨rfl, ⟨nd, rfl⟩⟩; refine ⟨_, rfl, ?_⟩))
          go_meet
          case rel => exact ⟨_, (t186), qr_, H', ⟨by have := HJ1.out; first | omega | exact Nat.le_refl _⟩, ⟨qk_ BK178.out⟩, ⟨qb_ HB.out⟩⟩
         ·rw [if_neg c34] at H
          exact absurd H (by simp)
        ·rw [if_neg c33] at H
         have c33b0 : ((bt a0 1) == 32) = false := beq_eq_false_iff_ne.mpr c33
         have c33b1 : ((bt a0 1) != 32) = true := bne_iff_ne.mpr c33
         (first | rw [c33b0] | (simp only [i64_w, i32_w]; rw [c33b0]) | skip)
         have H' := Aside0.mk H
         clear H
         go_wp2
         go_meet
         case rel => exact ⟨_, (t182), qr_, H', ⟨by have := HJ1.out; first | omega | exact Nat.le_refl _⟩, ⟨qk_ BK178.out⟩, ⟨qb_ HB.out⟩⟩
       case rest =>
        clear HC29
        (try clear c22 c24b0 c24b1 c25b0 c25b1)
        obtain ⟨kq, x4_28, rfl, HA, HJ28, BK178, HB⟩ := hcut
        cases kq with
        | zero => exact absurd HA.out (by simp [date_ParseInternal.j1])
        | succ kj28 =>
         have H := HA.out
         clear HA
         simp only [date_ParseInternal.j1] at H
         by_cases c40 : 4 ≤ 7
         ·rw [if_pos c40] at H
          have c40b0 := eq_true c40
          have c40b1 : decide (4 ≤ 7) = true := decide_eq_true c40
          clear c40
          by_cases c41 : 7 ≤ (a0.size : Int)
          ·rw [if_pos c41] at H
           have c41b0 := eq_true c41
           have c41b1 : decide (7 ≤ (a0.size : Int)) = true := decide_eq_true c41
           clear c41
           replace H := Option.bind_eq_some_iff.mp H
           obtain ⟨t187, A420, H⟩ := H
           replace H : (if 8 ≤ 12 then (if 12 ≤ (a0.size : Int) then ((date_digits.f kj28 (a0.extract 8 12) (([4] : List Int))).bind fun t191 => (if 13 ≤ 21 then (if 21 ≤ (a0.size : Int) then ((date_clock.f kj28 (a0.extract 13 21) 59 (([3] : List Int))).bind fun t195 => (if 22 ≤ 27 then (if 27 ≤ (a0.size : Int) then ((date_offset.f kj28 (a0.extract 22 27)).bind fun bt196 => (if t187 < 0 then (date_ParseInternal.j2 kj28 x4_28 t187 t191 t195 bt196.1 true) else (if t195 < 0 then (date_ParseInternal.j2 kj28 x4_28 t187 t191 t195 bt196.1 true) else (date_ParseInternal.j2 kj28 x4_28 t187 t191 t195 bt196.1 (!bt196.2))))) else (none)) else (none))) else (none)) else (none))) else (none)) else (none)) = some (r1, r2, r3) := H
           have A42 := Aside0.mk A420
           clear A420
           by_cases c43 : 8 ≤ 12
           ·rw [if_pos c43] at H
            have c43b0 := eq_true c43
            have c43b1 : decide (8 ≤ 12) = true := decide_eq_true c43
            clear c43
            by_cases c44 : 12 ≤ (a0.size : Int)
            ·rw [if_pos c44] at H
             have c44b0 := eq_true c44
             have c44b1 : decide (12 ≤ (a0.size : Int)) = true := decide_eq_true c44
             clear c44
             obtain ⟨y188, hy188⟩ : ∃ y_ : List Int, y_ = (([4] : List Int)) := ⟨_, rfl⟩
             replace H : ((date_digits.f kj28 (a0.extract 8 12) y188).bind fun t191 => (if 13 ≤ 21 then (if 21 ≤ (a0.size : Int) then ((date_clock.f kj28 (a0.extract 13 21) 59 (([3] : List Int))).bind fun t195 => (if 22 ≤ 27 then (if 27 ≤ (a0.size : Int) then ((date_offset.f kj28 (a0.extract 22 27)).bind fun bt196 => (if t187 < 0 then (date_ParseInternal.j2 kj28 x4_28 t187 t191 t195 bt196.1 true) else (if t195 < 0 then (date_ParseInternal.j2 kj28 x4_28 t187 t191 t195 bt196.1 true) else (date_ParseInternal.j2 kj28 x4_28 t187 t191 t195 bt196.1 (!bt196.2))))) else (none)) else (none))) else (none)) else (none))) = some (r1, r2, r3) := by first | (rw [hy188]; with_reducible exact H) | (have H2_ := (Option.bind_some _ _).symm.trans H; rw [hy188]; with_reducible exact H2_) | (have H2_ := (Option.bind_some _ _).symm.trans H; with_reducible exact H2_) | with_reducible exact H | (rw [hy188]; exact H) | exact H
             have Ny188 := Aside0.mk hy188
             clear hy188
             replace H := Option.bind_eq_some_iff.mp H
             obtain ⟨t191, A450, H⟩ := H
             replace H : (if 13 ≤ 21 then (if 21 ≤ (a0.size : Int) then ((date_clock.f kj28 (a0.extract 13 21) 59 (([3] : List Int))).bind fun t195 => (if 22 ≤ 27 then (if 27 ≤ (a0.size : Int) then ((date_offset.f kj28 (a0.extract 22 27)).bind fun bt196 => (if t187 < 0 then (date_ParseInternal.j2 kj28 x4_28 t187 t191 t195 bt196.1 true) else (if t195 < 0 then (date_ParseInternal.j2 kj28 x4_28 t187 t191 t195 bt196.1 true) else (date_ParseInternal.j2 kj28 x4_28 t187 t191 t195 bt196.1 (!bt196.2))))) else (none)) else (none))) else (none)) else (none)) = some (r1, r2, r3) := H
             have A45 := Aside0.mk A450
             clear A450
             by_cases c46 : 13 ≤ 21
             ·rw [if_pos c46] at H
              have c46b0 := eq_true c46
              have c46b1 : decide (13 ≤ 21) = true := decide_eq_true c46
              clear c46
              by_cases c47 : 21 ≤ (a0.size : Int)
              ·rw [if_pos c47] at H
               have c47b0 := eq_true c47
               have c47b1 : decide (21 ≤ (a0.size : Int)) = true := decide_eq_true c47
               clear c47
               obtain ⟨y192, hy192⟩ : ∃ y_ : List Int, y_ = (([3] : List Int)) := ⟨_, rfl⟩
               replace H : ((date_clock.f kj28 (a0.extract 13 21) 59 y192).bind fun t195 => (if 22 ≤ 27 then (if 27 ≤ (a0.size : Int) then ((date_offset.f kj28 (a0.extract 22 27)).bind fun bt196 => (if t187 < 0 then (date_ParseInternal.j2 kj28 x4_28 t187 t191 t195 bt196.1 true) else (if t195 < 0 then (date_ParseInternal.j2 kj28 x4_28 t187 t191 t195 bt196.1 true) else (date_ParseInternal.j2 kj28 x4_28 t187 t191 t195 bt196.1 (!bt196.2))))) else (none)) else (none))) = some (r1, r2, r3) := by first | (rw [hy192]; with_reducible exact H) | (have H2_ := (Option.bind_some _ _).symm.trans H; rw [hy192]; with_reducible exact H2_) | (have H2_ := (Option.bind_some _ _).symm.trans H; with_reducible exact H2_) | with_reducible exact H | (rw [hy192]; exact H) | exact H
               have Ny192 := Aside0.mk hy192
               clear hy192
               replace H := Option.bind_eq_some_iff.mp H
               obtain ⟨t195, A480, H⟩ := H
               replace H : (if 22 ≤ 27 then (if 27 ≤ (a0.size : Int) then ((date_offset.f kj28 (a0.extract 22 27)).bind fun bt196 => (if t187 < 0 then (date_ParseInternal.j2 kj28 x4_28 t187 t191 t195 bt196.1 true) else (if t195 < 0 then (date_ParseInternal.j2 kj28 x4_28 t187 t191 t195 bt196.1 true) else (date_ParseInternal.j2 kj28 x4_28 t187 t191 t195 bt196.1 (!bt196.2))))) else (none)) else (none)) = some (r1, r2, r3) := H
               have A48 := Aside0.mk A480
               clear A480
               by_cases c49 : 22 ≤ 27
               ·rw [if_pos c49] at H
                have c49b0 := eq_true c49
                have c49b1 : decide (22 ≤ 27) = true := decide_eq_true c49
                clear c49
                by_cases c50 : 27 ≤ (a0.size : Int)
                ·rw [if_pos c50] at H
                 have c50b0 := eq_true c50
                 have c50b1 : decide (27 ≤ (a0.size : Int)) = true := decide_eq_true c50
                 clear c50
                 replace H := Option.bind_eq_some_iff.mp H
                 obtain ⟨⟨t196, t197⟩, A510, H⟩ := H
                 replace H : (if t187 < 0 then (date_ParseInternal.j2 kj28 x4_28 t187 t191 t195 t196 true) else (if t195 < 0 then (date_ParseInternal.j2 kj28 x4_28 t187 t191 t195 t196 true) else (date_ParseInternal.j2 kj28 x4_28 t187 t191 t195 t196 (!t197)))) = some (r1, r2, r3) := H
                 have A51 := Aside0.mk A510
                 clear A510
                 have HC52 := Aside0.mk H
                 clear H
                 try go_wp2
                 have n0_ := Aside0.mk (blk_drew BK178.out)
                 have n1_ := Aside0.mk (below_drew1 HB.out)
                 clear BK178
                 clear HB
                 have BK178 := n0_
                 have HB := n1_
                 clear n0_ n1_
                 refine start_ (n := 9) (S := fun w' => True) (ds := []) #[false, false, false, false, false, false, false, false, false] (by kernel_rfl) rfl rfl trivial (fun hHeld => ?_); refine with_tabW date_ParseInternal.tab6 date_ParseInternal.bits6 (fun HT_ HW_ => ?_)
                 generalize wc.drew = w53 at BK178 HB hHeld ⊢
                 refine pure_ (i := 0) (N := some 57) (v := ?_) (a' := ?_) #[true, false, false, false, false, false, false, false, false] rfl rfl (any_of HT_.out (by kernel_rfl)) (fun _ _ _ h => h) (Or.inl ⟨by rfl, ?_⟩) ?_ ?_
                 rotate_left
                 ·intro w'
                  go_simp
                  with_reducible rfl
                 rotate_left
                 ·simp only [Act.put, List.setIfInBounds_toArray, List.set_cons_zero, List.set_cons_succ, i64_w, i32_w]
                  rfl
                 refine pure_ (i := 1) (N := some 58) (v := ?_) (a' := ?_) #[true, true, false, false, false, false, false, false, false] rfl rfl (any_of HT_.out (by kernel_rfl)) (fun _ _ _ h => h) (Or.inl ⟨by rfl, ?_⟩) ?_ ?_
                 rotate_left
                 ·intro w'
                  go_simp
                  with_reducible rfl
                 rotate_left
                 ·simp only [Act.put, List.setIfInBounds_toArray, List.set_cons_zero, List.set_cons_succ, i64_w, i32_w]
                  rfl
                 refine pure_ (i := 3) (N := some 60) (v := ?_) (a' := ?_) #[true, true, false, true, false, false, false, false, false] rfl rfl (any_of HT_.out (by kernel_rfl)) (fun _ _ _ h => h) (Or.inl ⟨by rfl, ?_⟩) ?_ ?_
                 rotate_left
                 ·intro w'
                  go_simp
                  with_reducible rfl
                 rotate_left
                 ·simp only [Act.put, List.setIfInBounds_toArray, List.set_cons_zero, List.set_cons_succ, i64_w, i32_w]
                  rfl
                 refine pure_ (i := 4) (N := some 61) (v := ?_) (a' := ?_) #[true, true, false, true, true, false, false, false, false] rfl rfl (any_of HT_.out (by kernel_rfl)) (fun _ _ _ h => h) (Or.inl ⟨by rfl, ?_⟩) ?_ ?_
                 rotate_left
                 ·intro w'
                  go_simp
                  with_reducible rfl
                 rotate_left
                 ·simp only [Act.put, List.setIfInBounds_toArray, List.set_cons_zero, List.set_cons_succ, i64_w, i32_w]
                  rfl
                 refine join_ (σ := Value) 3 #[true, true, true, true, true, true, false, false, false] (fun s_ => [(59, .int .i64 t187), (62, s_)]) (fun s_ w' => (Kd.R (Kd.int .i64) 3 w' w.heap.size (fun _ => True) s_ y188) ∧ (w'.heap[gb178]? = some (.cells #[.int .i64 0, .int .i64 0] 24 (0, 0))) ∧ (Below w.heap.size w w')) ?_ ?_
                 rotate_left
                 ·intro hCont
                  refine two_ (i := 2) (j := 5) (Ni := some 59) (Nj := some 62) #[true, true, true, true, true, false, false, false, false] #[true, true, false, true, true, true, false, false, false] rfl rfl rfl rfl (two_of HT_.out (by kernel_rfl)) (by decide) (by decide) (fun K hK => ?_) (fun K hK => ?_)
                  ·skip
                   refine goes_ Tryd.func20 (by kernel_rfl) rfl #[.string (a0.extract 4 7)] (by rfl) rfl rfl qa_ ?_
                   with_reducible refine (date_month.calls (a0.extract 4 7) t187 _ A42.out).mono ?_
                   rintro e w54 ⟨rfl, hb⟩
                   refine ⟨_, rfl, ?_⟩
                   have n0_ := Aside0.mk (blk_below (g := gb178) (o := .cells #[.int .i64 0, .int .i64 0] 24 (0, 0)) (qk_ BK178.out) hb)
                   have n1_ := Aside0.mk (below_step (qb_ HB.out) hb)
                   clear BK178
                   clear HB
                   have BK178 := n0_
                   have HB := n1_
                   clear n0_ n1_
                   (try clear hb)
                   (try clear hb2)
                   (try clear hk)
                   (try clear hi)
                   refine hK.out _ _ trivial (fun hHeld => ?_)
                   clear hK K
                   refine norm_ (a' := ?_) ?_ ?_
                   rotate_left
                   ·show Act.put _ (some 59) _ = _
                    simp only [Act.put, List.setIfInBounds_toArray, List.set_cons_zero, List.set_cons_succ, i64_w, i32_w]
                    rfl
                   refine one_ (i := 5) (N := some 62) #[true, true, true, true, true, true, false, false, false] rfl rfl (one_of HT_.out (by kernel_rfl)) (by decide) (fun K hK => ?_)
                   refine Kd.R_lit_step (Kd.int .i64) _ 3 ?hg (N := 62) ?hd (xs := ([4] : List Int)) (inner := [.int .i64 4]) (ok := fun _ => True) (okp := fun _ => True) ?hr ?hp (fun _ hk => hk) trivial (Below.refl _ _) (Nat.le_refl _) (by simp) ?_; (case hd => rfl); (case hg => rfl); (case hr => first | (go_simp; done) | (go_simp; rfl)); (case hp => exact (Reps.one (show Kd.M (Kd.int .i64) _ _ _ 4 [.int .i64 4] from rfl) (Reps.none _ _)))
                   intro v189 w55 ho56 hb hg_ hnew_
                   clear hg_ hnew_
                   (first | rw [← Ny188.out] at ho56 | (simp only [Int.reduceToNat] at ho56; rw [← Ny188.out] at ho56))
                   have n0_ := Aside0.mk (Kd.R_lower ho56 (below_size (qb_ HB.out)))
                   have n1_ := Aside0.mk (blk_below (g := gb178) (o := .cells #[.int .i64 0, .int .i64 0] 24 (0, 0)) (qk_ BK178.out) hb)
                   have n2_ := Aside0.mk (below_step (qb_ HB.out) hb)
                   clear BK178
                   clear HB
                   have HO190 := n0_
                   have BK178 := n1_
                   have HB := n2_
                   clear n0_ n1_ n2_
                   clear hb ho56
                   refine hK.out _ _ trivial (fun hHeld => ?_)
                   clear hK K
                   refine norm_ (a' := ?_) ?_ ?_
                   rotate_left
                   ·show Act.put _ (some 62) _ = _
                    simp only [Act.put, List.setIfInBounds_toArray, List.set_cons_zero, List.set_cons_succ, i64_w, i32_w]
                    rfl
                   exact norm_ (by simp only [putAll, Act.put, List.setIfInBounds_toArray, List.set_cons_zero, List.set_cons_succ]) (hCont (v189) _ ⟨(ql_ HO190.out), (qk_ BK178.out), (qb_ HB.out)⟩)
                  ·skip
                   refine Kd.R_lit_step (Kd.int .i64) _ 3 ?hg (N := 62) ?hd (xs := ([4] : List Int)) (inner := [.int .i64 4]) (ok := fun _ => True) (okp := fun _ => True) ?hr ?hp (fun _ hk => hk) trivial (Below.refl _ _) (Nat.le_refl _) (by simp) ?_; (case hd => rfl); (case hg => rfl); (case hr => first | (go_simp; done) | (go_simp; rfl)); (case hp => exact (Reps.one (show Kd.M (Kd.int .i64) _ _ _ 4 [.int .i64 4] from rfl) (Reps.none _ _)))
                   intro v189 w54 ho55 hb hg_ hnew_
                   clear hg_ hnew_
                   (first | rw [← Ny188.out] at ho55 | (simp only [Int.reduceToNat] at ho55; rw [← Ny188.out] at ho55))
                   have n0_ := Aside0.mk (Kd.R_lower ho55 (below_size (qb_ HB.out)))
                   have n1_ := Aside0.mk (blk_below (g := gb178) (o := .cells #[.int .i64 0, .int .i64 0] 24 (0, 0)) (qk_ BK178.out) hb)
                   have n2_ := Aside0.mk (below_step (qb_ HB.out) hb)
                   clear BK178
                   clear HB
                   have HO190 := n0_
                   have BK178 := n1_
                   have HB := n2_
                   clear n0_ n1_ n2_
                   clear hb ho55
                   refine hK.out _ _ trivial (fun hHeld => ?_)
                   clear hK K
                   refine norm_ (a' := ?_) ?_ ?_
                   rotate_left
                   ·show Act.put _ (some 62) _ = _
                    simp only [Act.put, List.setIfInBounds_toArray, List.set_cons_zero, List.set_cons_succ, i64_w, i32_w]
                    rfl
                   refine one_ (i := 2) (N := some 59) #[true, true, true, true, true, true, false, false, false] rfl rfl (one_of HT_.out (by kernel_rfl)) (by decide) (fun K hK => ?_)
                   refine goes_ Tryd.func20 (by kernel_rfl) rfl #[.string (a0.extract 4 7)] (by rfl) rfl rfl qa_ ?_
                   with_reducible refine (date_month.calls (a0.extract 4 7) t187 _ A42.out).mono ?_
                   rintro e w56 ⟨rfl, hb⟩
                   refine ⟨_, rfl, ?_⟩
                   have n0_ := Aside0.mk (Kd.R_below (ql_ HO190.out) hb)
                   have n1_ := Aside0.mk (blk_below (g := gb178) (o := .cells #[.int .i64 0, .int .i64 0] 24 (0, 0)) (qk_ BK178.out) hb)
                   have n2_ := Aside0.mk (below_step (qb_ HB.out) hb)
                   clear HO190
                   clear BK178
                   clear HB
                   have HO190 := n0_
                   have BK178 := n1_
                   have HB := n2_
                   clear n0_ n1_ n2_
                   (try clear hb)
                   (try clear hb2)
                   (try clear hk)
                   (try clear hi)
                   refine hK.out _ _ trivial (fun hHeld => ?_)
                   clear hK K
                   refine norm_ (a' := ?_) ?_ ?_
                   rotate_left
                   ·show Act.put _ (some 59) _ = _
                    simp only [Act.put, List.setIfInBounds_toArray, List.set_cons_zero, List.set_cons_succ, i64_w, i32_w]
                    rfl
                   exact norm_ (by simp only [putAll, Act.put, List.setIfInBounds_toArray, List.set_cons_zero, List.set_cons_succ]) (hCont (v189) _ ⟨(ql_ HO190.out), (qk_ BK178.out), (qb_ HB.out)⟩)
                 rintro v189 w57 ⟨h0_, h1_, h2_⟩
                 have n0_ : Aside0 (Kd.R (Kd.int .i64) 3 w57 w.heap.size (fun _ => True) v189 y188) := ⟨h0_⟩
                 have n1_ : Aside0 (w57.heap[gb178]? = some (.cells #[.int .i64 0, .int .i64 0] 24 (0, 0))) := ⟨h1_⟩
                 have n2_ : Aside0 (Below w.heap.size w w57) := ⟨h2_⟩
                 clear BK178
                 clear HB
                 clear h0_ h1_ h2_
                 have HO190 := n0_
                 have BK178 := n1_
                 have HB := n2_
                 clear n0_ n1_ n2_
                 have hHeld := trivial
                 obtain ⟨Ao58, co58, eo58⟩ := Kd.R_slice HO190.out
                 (first | subst eo58 | (injection eo58 with f1_ f2_ f3_; have f4_ := f1_.symm; have f5_ := f3_.symm; clear f1_ f2_ f3_; subst f4_; subst f5_))
                 refine norm_ (a' := ?_) ?_ ?_
                 rotate_left
                 ·simp only [putAll, Act.put, List.setIfInBounds_toArray, List.set_cons_zero, List.set_cons_succ]
                  rfl
                 refine one_ (i := 6) (N := some 63) #[true, true, true, true, true, true, true, false, false] rfl rfl (one_of HT_.out (by kernel_rfl)) (by decide) (fun K hK => ?_)
                 refine goes_ Tryd.func25 (by kernel_rfl) rfl #[.string (a0.extract 8 12), .slice Ao58 y188.length co58] (by rfl) rfl rfl qa_ ?_
                 with_reducible refine (date_digits.calls kj28 (a0.extract 8 12) _ _ y188 t191 _ ?side1 ?side2 A45.out).mono ?_
                 (case side1 => repeat (first | exact (Kd.R_reads' HO190.out).2.2 | (with_reducible refine Kd.C_alloc ?_ _) | (with_reducible refine Kd.C_drewN ?_ _) | (with_reducible refine Kd.C_drew ?_)))
                 (case side2 => exact (Kd.R_reads' HO190.out).2.1)
                 rintro e w' ⟨rfl, ⟨nd, rfl⟩⟩
                 refine ⟨_, rfl, ?_⟩
                 refine hK.out _ _ trivial (fun hHeld => ?_)
                 clear hK K
                 refine norm_ (a' := ?_) ?_ ?_
                 rotate_left
                 ·show Act.put _ (some 63) _ = _
                  simp only [Act.put, List.setIfInBounds_toArray, List.set_cons_zero, List.set_cons_succ, i64_w, i32_w]
                  rfl
                 refine pure_ (i := 7) (N := some 5) (v := ?_) (a' := ?_) #[true, true, true, true, true, true, true, true, false] rfl rfl (any_of HT_.out (by kernel_rfl)) (fun _ _ _ h => h) (Or.inl ⟨by rfl, ?_⟩) ?_ ?_
                 rotate_left
                 ·intro w'
                  go_simp
                  with_reducible rfl
                 rotate_left
                 ·simp only [Act.put, List.setIfInBounds_toArray, List.set_cons_zero, List.set_cons_succ, i64_w, i32_w]
                  rfl
                 refine pure_ (i := 8) (N := some 6) (v := ?_) (a' := ?_) #[true, true, true, true, true, true, true, true, true] rfl rfl (any_of HT_.out (by kernel_rfl)) (fun _ _ _ h => h) (Or.inl ⟨by rfl, ?_⟩) ?_ ?_
                 rotate_left
                 ·intro w'
                  go_simp
                  with_reducible rfl
                 rotate_left
                 ·simp only [Act.put, List.setIfInBounds_toArray, List.set_cons_zero, List.set_cons_succ, i64_w, i32_w]
                  rfl
                 refine done_ (done_of HT_.out (by kernel_rfl)) ?_
                 go_upto_region 9 with (first | ((with_reducible refine gate_dst (N := 66) rfl ?_); refine Kd.R_lit (Kd.int .i64) _ 3 ?hg (N := 66) ?hd (xs := ([3] : List Int)) (inner := [.int .i64 3]) (ok := fun _ => True) (okp := fun _ => True) ?hr ?hp (fun _ hk => hk) trivial (Below.refl _ _) (Nat.le_refl _) (by simp) ?_; (case hd => rfl); (case hg => rfl); (case hr => first | (go_simp; done) | (go_simp; rfl)); (case hp => exact (Reps.one (show Kd.M (Kd.int .i64) _ _ _ 3 [.int .i64 3] from rfl) (Reps.none _ _))); intro v193 w59 ho60 hb hg_ hnew_; clear hg_ hnew_; (first | rw [← Ny192.out] at ho60 | (simp only [Int.reduceToNat] at ho60; rw [← Ny192.out] at ho60)); have n0_ := Aside0.mk (Kd.R_elder' (ql_ HO190.out) (Kd.R_base ho60) hb); have n1_ := Aside0.mk (Kd.R_lower (Kd.R_new' ho60 (Kd.R_lt (ql_ HO190.out))) (below_size (qb_ HB.out))); have n2_ := Aside0.mk (blk_below (g := gb178) (o := .cells #[.int .i64 0, .int .i64 0] 24 (0, 0)) (qk_ BK178.out) hb); have n3_ := Aside0.mk (below_step (qb_ HB.out) hb); clear HO190; clear BK178; clear HB; have HO190 := n0_; have HO194 := n1_; have BK178 := n2_; have HB := n3_; clear n0_ n1_ n2_ n3_; clear hb ho60; obtain ⟨Ao61, co61, eo61⟩ := Kd.R_slice HO194.out; subst eo61) | ((with_reducible refine gate_callee (f := 22) rfl ?_); refine goesL_ (some 67) rfl rfl Tryd.func22 (by kernel_rfl) rfl #[.string (a0.extract 13 21), .int .i64 59, .slice Ao61 y192.length co61] rfl qa_ ?_; (with_reducible refine (date_clock.calls kj28 (a0.extract 13 21) 59 _ _ y192 t195 _ ?side1 ?side2 A48.out).mono ?_); (case side1 => repeat (first | exact (Kd.R_reads' HO194.out).2.2 | (with_reducible refine Kd.C_alloc ?_ _) | (with_reducible refine Kd.C_drewN ?_ _) | (with_reducible refine Kd.C_drew ?_))); (case side2 => exact (Kd.R_reads' HO194.out).2.1); rintro e w62 ⟨rfl, hb⟩; refine ⟨_, rfl, ?_⟩; have n0_ := Aside0.mk (Kd.R_below (ql_ HO190.out) hb); have n1_ := Aside0.mk (Kd.R_below (ql_ HO194.out) hb); have n2_ := Aside0.mk (blk_below (g := gb178) (o := .cells #[.int .i64 0, .int .i64 0] 24 (0, 0)) (qk_ BK178.out) hb); have n3_ := Aside0.mk (below_step (qb_ HB.out) hb); clear HO190; clear HO194; clear BK178; clear HB; have HO190 := n0_; have HO194 := n1_; have BK178 := n2_; have HB := n3_; clear n0_ n1_ n2_ n3_; (try clear hb); (try clear hb2); (try clear hk); (try clear hi)) | ((with_reducible refine gate_callee (f := 34) rfl ?_); refine goesL_ (some 71) rfl rfl Tryd.func34 (by kernel_rfl) rfl #[.string (a0.extract 22 27)] rfl qa_ ?_; (with_reducible refine (date_offset.calls kj28 (a0.extract 22 27) t196 t197 _ A51.out).mono ?_); rintro e w63 ⟨rfl, hb⟩; refine ⟨_, rfl, ?_⟩; have n0_ := Aside0.mk (Kd.R_below (ql_ HO190.out) hb); have n1_ := Aside0.mk (Kd.R_below (ql_ HO194.out) hb); have n2_ := Aside0.mk (blk_below (g := gb178) (o := .cells #[.int .i64 0, .int .i64 0] 24 (0, 0)) (qk_ BK178.out) hb); have n3_ := Aside0.mk (below_step (qb_ HB.out) hb); clear HO190; clear HO194; clear BK178; clear HB; have HO190 := n0_; have HO194 := n1_; have BK178 := n2_; have HB := n3_; clear n0_ n1_ n2_ n3_; (try clear hb); (try clear hb2); (try clear hk); (try clear hi)))
                 (try simp only [Act.put, List.setIfInBounds_toArray, List.set_cons_zero, List.set_cons_succ])
                 go_cut [83] (fun v83 wc => ∃ (kq : Nat) (x83_51 : Bool), v83 = .bool x83_51 ∧ Aside0 (date_ParseInternal.j2 kq x4_28 t187 t191 t195 t196 x83_51 = some (r1, r2, r3)) ∧ Aside0 (kq ≤ kj28) ∧ Aside0 (wc.heap[gb178]? = some (.cells #[.int .i64 0, .int .i64 0] 24 (0, 0))) ∧ Aside0 (Below w.heap.size w wc))
                 case first =>
                  have H := HC52.out
                  clear HC52
                  by_cases c64 : t187 < 0
                  ·rw [if_pos c64] at H
                   have c64b0 : decide (t187 < 0) = true := decide_eq_true c64
                   clear c64
                   (first | rw [c64b0] | (simp only [i64_w, i32_w]; rw [c64b0]) | skip)
                   have H' := Aside0.mk H
                   clear H
                   go_wp2
                   go_meet
                   case rel => exact ⟨_, (true), qr_, H', ⟨by have := HJ1.out; have := HJ28.out; first | omega | exact Nat.le_refl _⟩, ⟨qk_ BK178.out⟩, ⟨qb_ HB.out⟩⟩
                  ·rw [if_neg c64] at H
                   have c64b0 : decide (t187 < 0) = false := decide_eq_false c64
                   clear c64
                   (first | rw [c64b0] | (simp only [i64_w, i32_w]; rw [c64b0]) | skip)
                   by_cases c65 : t195 < 0
                   ·rw [if_pos c65] at H
                    have c65b0 : decide (t195 < 0) = true := decide_eq_true c65
                    clear c65
                    have H' := Aside0.mk H
                    clear H
                    go_wp2
                    go_meet
                    case rel => exact ⟨_, (true), qr_, H', ⟨by have := HJ1.out; have := HJ28.out; first | omega | exact Nat.le_refl _⟩, ⟨qk_ BK178.out⟩, ⟨qb_ HB.out⟩⟩
                   ·rw [if_neg c65] at H
                    have c65b0 : decide (t195 < 0) = false := decide_eq_false c65
                    clear c65
                    have H' := Aside0.mk H
                    clear H
                    go_wp2
                    go_meet
                    case rel => exact ⟨_, (!t197), qr_, H', ⟨by have := HJ1.out; have := HJ28.out; first | omega | exact Nat.le_refl _⟩, ⟨qk_ BK178.out⟩, ⟨qb_ HB.out⟩⟩
                 case rest =>
                  clear HC52
                  (try clear c40b0 c40b1 c41b0 c41b1 c43b0 c43b1 c44b0 c44b1 c46b0 c46b1 c47b0 c47b1 c49b0 c49b1)
                  obtain ⟨kq, x83_51, rfl, HA, HJ51, BK178, HB⟩ := hcut
                  cases kq with
                  | zero => exact absurd HA.out (by simp [date_ParseInternal.j2])
                  | succ kj51 =>
                   have H := HA.out
                   clear HA
                   simp only [date_ParseInternal.j2] at H
                   by_cases c66 : x83_51 = true
                   ·subst c66
                    have H1 : (some (0, 0, false)) = some (r1, r2, r3) := by rw [if_pos rfl] at H; exact H
                    clear H
                    have H := H1
                    clear H1
                    simp only [Option.some.injEq, Prod.mk.injEq] at H
                    obtain ⟨rfl, rfl, rfl⟩ := H
                    obtain ⟨hcz67_0, hcz67_1, hfz67_0, hfz67_1⟩ := cz2_ BK178.out
                    go_wp2
                    refine bodyPost_ret (results_ct rfl _ _ gb178 24 #[.int .i64 0, .int .i64 0] (0, 0) _ rfl (qs2_ (qk_ BK178.out)) Tryd.underlying24 rfl (by kernel_rfl)) rfl ?_
                    exact ⟨qw_, qb_ HB.out⟩
                   ·replace c66 := Bool.eq_false_iff.mpr c66
                    subst c66
                    have H1 : ((date_number.f kj51 t191 t187 x4_28).bind fun bt198 => (if bt198.2 = true then ((date_moment.f bt198.1 t195 t196).bind fun bt200 => (some (bt200.1, bt200.2, true))) else (some (0, 0, false)))) = some (r1, r2, r3) := by rw [if_neg (show ¬ (false = true) by decide)] at H; exact H
                    clear H
                    have H := H1
                    clear H1
                    replace H := Option.bind_eq_some_iff.mp H
                    obtain ⟨⟨t198, t199⟩, A680, H⟩ := H
                    replace H : (if t199 = true then ((date_moment.f t198 t195 t196).bind fun bt200 => (some (bt200.1, bt200.2, true))) else (some (0, 0, false))) = some (r1, r2, r3) := H
                    have A68 := Aside0.mk A680
                    clear A680
                    by_cases c69 : t199 = true
                    ·subst c69
                     have H1 : ((date_moment.f t198 t195 t196).bind fun bt200 => (some (bt200.1, bt200.2, true))) = some (r1, r2, r3) := by rw [if_pos rfl] at H; exact H
                     clear H
                     have H := H1
                     clear H1
                     replace H := Option.bind_eq_some_iff.mp H
                     obtain ⟨⟨t200, t201⟩, A700, H⟩ := H
                     replace H : (some (t200, t201, true)) = some (r1, r2, r3) := H
                     have A70 := Aside0.mk A700
                     clear A700
                     simp only [Option.some.injEq, Prod.mk.injEq] at H
                     obtain ⟨rfl, rfl, rfl⟩ := H
                     go_wp2_with (first | ((with_reducible refine gate_callee (f := 23) rfl ?_); refine goesL_ (some 89) rfl rfl Tryd.func23 (by kernel_rfl) rfl #[.int .i64 t191, .int .i64 t187, .int .i64 x4_28] rfl qa_ ?_; (with_reducible refine (date_number.calls kj51 t191 t187 x4_28 t198 true _ A68.out).mono ?_); rintro e w' ⟨rfl, ⟨nd, rfl⟩⟩; refine ⟨_, rfl, ?_⟩; (try (rw [drewN_self wc]; generalize hq_ : World.drewN wc _ = wc; have n0_ : Aside0 (wc.heap[gb178]? = some (.cells #[.int .i64 0, .int .i64 0] 24 (0, 0))) := ⟨by rw [← hq_]; exact (qk_ BK178.out)⟩; have n1_ : Aside0 (Below w.heap.size w wc) := ⟨by rw [← hq_]; exact (qb_ HB.out)⟩; clear BK178 HB hq_; have BK178 := n0_; have HB := n1_; clear n0_ n1_))) | ((with_reducible refine gate_callee (f := 26) rfl ?_); refine goesL_ (some 98) rfl rfl Tryd.func26 (by kernel_rfl) rfl #[.int .i64 t198, .int .i64 t195, .int .i64 t196] rfl qa_ ?_; (with_reducible refine (date_moment.calls t198 t195 t196 t200 t201 _ A70.out).mono ?_); rintro e w71 ⟨rfl, hb⟩; refine ⟨_, rfl, ?_⟩; have n0_ := Aside0.mk (blk_below (g := gb178) (o := .cells #[.int .i64 0, .int .i64 0] 24 (0, 0)) (qk_ BK178.out) hb); have n1_ := Aside0.mk (below_step (qb_ HB.out) hb); clear BK178; clear HB; have BK178 := n0_; have HB := n1_; clear n0_ n1_; (try clear hb); (try clear hb2); (try clear hk); (try clear hi); have hcz72_0 : w71.cell? ⟨gb178, 0, none⟩ = some (.int .i64 0) := (blk_cell BK178.out 0).trans rfl; have hcz72_1 : w71.cell? ⟨gb178, 1, none⟩ = some (.int .i64 0) := (blk_cell BK178.out 1).trans rfl; have hfz72_0 := blk_frozen BK178.out 0; have hfz72_1 := blk_frozen BK178.out 1))
                     refine bodyPost_ret (results_ct rfl _ _ gb178 24 #[.int .i64 t200, .int .i64 t201] (0, 0) _ rfl (qs2_ (qk_ BK178.out)) Tryd.underlying24 rfl (by kernel_rfl)) rfl ?_
                     exact ⟨qw_, qb_ HB.out⟩
                    ·replace c69 := Bool.eq_false_iff.mpr c69
                     subst c69
                     have H1 : (some (0, 0, false)) = some (r1, r2, r3) := by rw [if_neg (show ¬ (false = true) by decide)] at H; exact H
                     clear H
                     have H := H1
                     clear H1
                     simp only [Option.some.injEq, Prod.mk.injEq] at H
                     obtain ⟨rfl, rfl, rfl⟩ := H
                     go_wp2_with (first | ((with_reducible refine gate_callee (f := 23) rfl ?_); refine goesL_ (some 89) rfl rfl Tryd.func23 (by kernel_rfl) rfl #[.int .i64 t191, .int .i64 t187, .int .i64 x4_28] rfl qa_ ?_; (with_reducible refine (date_number.calls kj51 t191 t187 x4_28 t198 false _ A68.out).mono ?_); rintro e w' ⟨rfl, ⟨nd, rfl⟩⟩; refine ⟨_, rfl, ?_⟩; (try (rw [drewN_self wc]; generalize hq_ : World.drewN wc _ = wc; have n0_ : Aside0 (wc.heap[gb178]? = some (.cells #[.int .i64 0, .int .i64 0] 24 (0, 0))) := ⟨by rw [← hq_]; exact (qk_ BK178.out)⟩; have n1_ : Aside0 (Below w.heap.size w wc) := ⟨by rw [← hq_]; exact (qb_ HB.out)⟩; clear BK178 HB hq_; have BK178 := n0_; have HB := n1_; clear n0_ n1_)); have hcz73_0 : wc.cell? ⟨gb178, 0, none⟩ = some (.int .i64 0) := (blk_cell BK178.out 0).trans rfl; have hcz73_1 : wc.cell? ⟨gb178, 1, none⟩ = some (.int .i64 0) := (blk_cell BK178.out 1).trans rfl; have hfz73_0 := blk_frozen BK178.out 0; have hfz73_1 := blk_frozen BK178.out 1))
                     refine bodyPost_ret (results_ct rfl _ _ gb178 24 #[.int .i64 0, .int .i64 0] (0, 0) _ rfl (qs2_ (qk_ BK178.out)) Tryd.underlying24 rfl (by kernel_rfl)) rfl ?_
                     exact ⟨qw_, qb_ HB.out⟩
                ·rw [if_neg c50] at H
                 exact absurd H (by simp)
               ·rw [if_neg c49] at H
                exact absurd H (by simp)
              ·rw [if_neg c47] at H
               exact absurd H (by simp)
             ·rw [if_neg c46] at H
              exact absurd H (by simp)
            ·rw [if_neg c44] at H
             exact absurd H (by simp)
           ·rw [if_neg c43] at H
            exact absurd H (by simp)
          ·rw [if_neg c41] at H
           exact absurd H (by simp)
         ·rw [if_neg c40] at H
          exact absurd H (by simp)
      ·rw [if_neg c27] at H
       exact absurd H (by simp)
     ·rw [if_neg c25] at H
      exact absurd H (by simp)
    ·rw [if_neg c24] at H
     exact absurd H (by simp)

end Go.Proofs.YtmbiggcapakjjaaDoor.P
