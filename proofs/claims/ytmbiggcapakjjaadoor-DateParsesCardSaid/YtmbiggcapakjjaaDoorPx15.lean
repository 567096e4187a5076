-- Written by a program of this session (wip/tools/mk.sh) for this claim: it runs the kit's print with contracts of our own. Lean checks it.
import Derived.Test.YtmbiggcapakjjaaDoorPx0
import Derived.Test.YtmbiggcapakjjaaDoorWRepsOne
import Derived.Test.YtmbiggcapakjjaaDoorWTab
import Derived.Test.YtmbiggcapakjjaaDoorZSplit
import Derived.Test.YtmbiggcapakjjaaDoorPx10
import Derived.Test.YtmbiggcapakjjaaDoorPx11
import Derived.Test.YtmbiggcapakjjaaDoorPx12
import Derived.Test.YtmbiggcapakjjaaDoorPx13
namespace Go.Proofs.YtmbiggcapakjjaaDoor.P
open Go.RowKit Go.Proofs.YtmbiggcapakjjaaDoorW.PrintWords Go.Proofs.YtmbiggcapakjjaaDoorW.PrintLast Go.Proofs.YtmbiggcapakjjaaDoorW.PrintMore
attribute [-simp] Int.tmod_tmod_of_dvd
attribute [local go_sem] max2_int min2_int max_two min_two max_three min_three max_four min_four   -- for this text's walks alone
set_option linter.unusedVariables false
set_option linter.unusedSimpArgs false

/-! ### letterboxref11_ParseInternal: function 11 -/
mutual
def letterboxref11_ParseInternal.j0 : Nat → ByteArray → Bool → Option (Int × Int × Bool)
 | 0, _, _ => none
 | k + 1, x0, x32 => if x32 = true then (some (0, 0, false)) else (if 1 ≤ 3 then (if 3 ≤ (x0.size : Int) then ((letterboxref11_digits.f k (x0.extract 1 3) 2 2).bind fun t303 => (if 1 < (x0.size : Int) then (if (bt x0 1) = 32 then (if 2 ≤ 3 then ((letterboxref11_digits.f k (x0.extract 2 3) 1 1).bind fun t304 => (letterboxref11_ParseInternal.j1 k x0 t304)) else (none)) else (letterboxref11_ParseInternal.j1 k x0 t303)) else (none))) else (none)) else (none))
def letterboxref11_ParseInternal.j1 : Nat → ByteArray → Int → Option (Int × Int × Bool)
 | 0, _, _ => none
 | k + 1, x0, x4 => if 8 ≤ 12 then (if 12 ≤ (x0.size : Int) then ((letterboxref11_digits.f k (x0.extract 8 12) 4 4).bind fun t305 => (if 4 ≤ 7 then (if 7 ≤ (x0.size : Int) then ((letterboxref11_month.f k (x0.extract 4 7)).bind fun t306 => ((letterboxref11_number.f k t305 t306 x4).bind fun bt307 => (if 13 ≤ 21 then (if 21 ≤ (x0.size : Int) then ((letterboxref11_clock.f k (x0.extract 13 21) true 59).bind fun t309 => (if 22 ≤ 27 then (if 27 ≤ (x0.size : Int) then ((letterboxref11_offset.f k (x0.extract 22 27)).bind fun bt310 => (if bt307.2 = true then (if bt310.2 = true then (if t309 < 0 then (some (0, 0, false)) else (some (wrap64 ((wrap64 ((wrap64 (86400 * bt307.1)) + t309)) - (wrap64 (60 * bt310.1))), bt310.1, true))) else (some (0, 0, false))) else (some (0, 0, false)))) else (none)) else (none))) else (none)) else (none)))) else (none)) else (none))) else (none)) else (none)
end
def letterboxref11_ParseInternal.f (k : Nat) (a0 : ByteArray) : Option (Int × Int × Bool) := if (a0.size : Int) = 28 then (if 0 ≤ 1 then (if 1 ≤ (a0.size : Int) then (if 3 ≤ 4 then (if 4 ≤ (a0.size : Int) then (if (a0.extract 0 1).size + (a0.extract 3 4).size ≤ 9223372036854775807 then (if 7 ≤ 8 then (if 8 ≤ (a0.size : Int) then (if ((a0.extract 0 1) ++ (a0.extract 3 4)).size + (a0.extract 7 8).size ≤ 9223372036854775807 then (if 12 ≤ 13 then (if 13 ≤ (a0.size : Int) then (if (((a0.extract 0 1) ++ (a0.extract 3 4)) ++ (a0.extract 7 8)).size + (a0.extract 12 13).size ≤ 9223372036854775807 then (if 21 ≤ 22 then (if 22 ≤ (a0.size : Int) then (if ((((a0.extract 0 1) ++ (a0.extract 3 4)) ++ (a0.extract 7 8)) ++ (a0.extract 12 13)).size + (a0.extract 21 22).size ≤ 9223372036854775807 then (if 27 ≤ (a0.size : Int) then (if (((((a0.extract 0 1) ++ (a0.extract 3 4)) ++ (a0.extract 7 8)) ++ (a0.extract 12 13)) ++ (a0.extract 21 22)).size + (a0.extract 27 a0.size).size ≤ 9223372036854775807 then (letterboxref11_ParseInternal.j0 k a0 (((((((a0.extract 0 1) ++ (a0.extract 3 4)) ++ (a0.extract 7 8)) ++ (a0.extract 12 13)) ++ (a0.extract 21 22)) ++ (a0.extract 27 a0.size)).toList != ([34, 45, 45, 32, 32, 34] : List UInt8))) else (none)) else (none)) else (none)) else (none)) else (none)) else (none)) else (none)) else (none)) else (none)) else (none)) else (none)) else (none)) else (none)) else (none)) else (none)) else (none)) else (letterboxref11_ParseInternal.j0 k a0 true)
theorem letterboxref11_ParseInternal.mono_l : ∀ k, (∀ y0 y1, LeO (letterboxref11_ParseInternal.j0 k y0 y1) (letterboxref11_ParseInternal.j0 (k + 1) y0 y1)) ∧ (∀ y0 y1, LeO (letterboxref11_ParseInternal.j1 k y0 y1) (letterboxref11_ParseInternal.j1 (k + 1) y0 y1))
 | 0 => ⟨fun _ _ r h => by simp [letterboxref11_ParseInternal.j0] at h, fun _ _ r h => by simp [letterboxref11_ParseInternal.j1] at h⟩
 | k + 1 => by
  obtain ⟨ih0, ih1⟩ := letterboxref11_ParseInternal.mono_l k
  refine ⟨?_, ?_⟩
  ·intro y0 y1
   unfold letterboxref11_ParseInternal.j0
   repeat' first
   | (with_reducible exact ih0 _ _)
   | (with_reducible exact ih1 _ _)
   | (with_reducible exact letterboxref11_clock.mono _ _ _ _)
   | (with_reducible exact letterboxref11_digits.mono _ _ _ _)
   | (with_reducible exact letterboxref11_month.mono _ _)
   | (with_reducible exact letterboxref11_number.mono _ _ _ _)
   | (with_reducible exact letterboxref11_offset.mono _ _)
   | (with_reducible exact LeO.refl _)
   | (with_reducible exact LeO.none _)
   | (with_reducible refine LeO.ite ?_ ?_)
   | (with_reducible refine LeO.bind ?_ (fun _ => ?_))
   | exact ih0 _ _
   | exact ih1 _ _
   | exact letterboxref11_clock.mono _ _ _ _
   | exact letterboxref11_digits.mono _ _ _ _
   | exact letterboxref11_month.mono _ _
   | exact letterboxref11_number.mono _ _ _ _
   | exact letterboxref11_offset.mono _ _
   | exact LeO.none _
   | refine LeO.ite ?_ ?_
   | refine LeO.bind ?_ (fun _ => ?_)
  ·intro y0 y1
   unfold letterboxref11_ParseInternal.j1
   repeat' first
   | (with_reducible exact ih0 _ _)
   | (with_reducible exact ih1 _ _)
   | (with_reducible exact letterboxref11_clock.mono _ _ _ _)
   | (with_reducible exact letterboxref11_digits.mono _ _ _ _)
   | (with_reducible exact letterboxref11_month.mono _ _)
   | (with_reducible exact letterboxref11_number.mono _ _ _ _)
   | (with_reducible exact letterboxref11_offset.mono _ _)
   | (with_reducible exact LeO.refl _)
   | (with_reducible exact LeO.none _)
   | (with_reducible refine LeO.ite ?_ ?_)
   | (with_reducible refine LeO.bind ?_ (fun _ => ?_))
   | exact ih0 _ _
   | exact ih1 _ _
   | exact letterboxref11_clock.mono _ _ _ _
   | exact letterboxref11_digits.mono _ _ _ _
   | exact letterboxref11_month.mono _ _
   | exact letterboxref11_number.mono _ _ _ _
   | exact letterboxref11_offset.mono _ _
   | exact LeO.none _
   | refine LeO.ite ?_ ?_
   | refine LeO.bind ?_ (fun _ => ?_)
theorem letterboxref11_ParseInternal.mono : ∀ a0 k, LeO (letterboxref11_ParseInternal.f k a0) (letterboxref11_ParseInternal.f (k + 1) a0) := by
 intro a0 k
 obtain ⟨ih0, ih1⟩ := letterboxref11_ParseInternal.mono_l k
 unfold letterboxref11_ParseInternal.f
 repeat' first
   | (with_reducible exact ih0 _ _)
   | (with_reducible exact ih1 _ _)
   | (with_reducible exact letterboxref11_clock.mono _ _ _ _)
   | (with_reducible exact letterboxref11_digits.mono _ _ _ _)
   | (with_reducible exact letterboxref11_month.mono _ _)
   | (with_reducible exact letterboxref11_number.mono _ _ _ _)
   | (with_reducible exact letterboxref11_offset.mono _ _)
   | (with_reducible exact LeO.refl _)
   | (with_reducible exact LeO.none _)
   | (with_reducible refine LeO.ite ?_ ?_)
   | (with_reducible refine LeO.bind ?_ (fun _ => ?_))
   | exact ih0 _ _
   | exact ih1 _ _
   | exact letterboxref11_clock.mono _ _ _ _
   | exact letterboxref11_digits.mono _ _ _ _
   | exact letterboxref11_month.mono _ _
   | exact letterboxref11_number.mono _ _ _ _
   | exact letterboxref11_offset.mono _ _
   | exact LeO.none _
   | refine LeO.ite ?_ ?_
   | refine LeO.bind ?_ (fun _ => ?_)
def letterboxref11_ParseInternal.T1 : Bool × List (List Nat × List Nat) := (true, [([], []), ([0], [0]), ([1], [1]), ([2], [2]), ([3], [3]), ([4, 3], [3, 4]), ([3], [3]), ([6, 3], [3, 6]), ([5, 7, 3], [3, 5, 7]), ([3], [3]), ([9, 3], [3, 9]), ([8, 10, 3], [3, 8, 10]), ([3], [3]), ([12, 3], [3, 12]), ([11, 13, 3], [3, 11, 13]), ([3], [3]), ([15, 3], [3, 15]), ([14, 16, 3], [3, 14, 16]), ([3], [3]), ([18, 3], [3, 18]), ([17, 19, 3], [3, 17, 19]), ([20, 3], [3, 20]), ([3, 21], [3, 21])])
def letterboxref11_ParseInternal.B1 : List Nat := [0, 1, 3, 7, 15, 31, 15, 79, 255, 15, 527, 2047, 15, 4111, 16383, 15, 32783, 131071, 15, 262159, 1048575, 2097151, 4194303]
theorem letterboxref11_ParseInternal.tab1 : rtab .any (opsOf Tryd.f11 1) = letterboxref11_ParseInternal.T1 := by kernel_rfl
theorem letterboxref11_ParseInternal.bits1 : waitsOk letterboxref11_ParseInternal.T1.2 letterboxref11_ParseInternal.B1 = true := by kernel_rfl
def letterboxref11_ParseInternal.T6 : Bool × List (List Nat × List Nat) := (true, [([], []), ([0], [0]), ([1], [1]), ([], []), ([3], [3]), ([4, 2], [4]), ([], []), ([2, 5, 6, 5], [2, 5, 6]), ([7], [7]), ([8], [8]), ([8], [8]), ([9, 7, 0, 1, 2, 3, 4, 5, 6, 7, 8, 9], [9]), ([10, 11, 0, 1, 2, 3, 4, 5, 6, 7, 8, 9, 10, 11], [10])])
def letterboxref11_ParseInternal.B6 : List Nat := [0, 1, 3, 0, 8, 31, 0, 127, 255, 511, 511, 1023, 4095]
theorem letterboxref11_ParseInternal.tab6 : rtab .any (opsOf Tryd.f11 6) = letterboxref11_ParseInternal.T6 := by kernel_rfl
theorem letterboxref11_ParseInternal.bits6 : waitsOk letterboxref11_ParseInternal.T6.2 letterboxref11_ParseInternal.B6 = true := by kernel_rfl
set_option maxHeartbeats 8000000 in
set_option maxRecDepth 100000 in
theorem letterboxref11_ParseInternal.calls (k : Nat) (a0 : ByteArray) (r1 : Int) (r2 : Int) (r3 : Bool) (w : World) (h : letterboxref11_ParseInternal.f k a0 = some (r1, r2, r3)) :
  Calls Tryd.prog 11 #[.string a0] w fun e w' => e = .returned (.tuple #[.agg #[.int .i64 r1, .int .i64 r2], .bool r3]) ∧ Below w.heap.size w w' := by
 have hu27 := Tryd.underlying27
 have hw8_ : ∀ x_ : Int, IntKind.u8.wrap x_ = x_ % 256 := IntKind.wrap_u8
 have HB := Aside0.mk (Below.refl w.heap.size w)
 have H : (if (a0.size : Int) = 28 then (if 0 ≤ 1 then (if 1 ≤ (a0.size : Int) then (if 3 ≤ 4 then (if 4 ≤ (a0.size : Int) then (if (a0.extract 0 1).size + (a0.extract 3 4).size ≤ 9223372036854775807 then (if 7 ≤ 8 then (if 8 ≤ (a0.size : Int) then (if ((a0.extract 0 1) ++ (a0.extract 3 4)).size + (a0.extract 7 8).size ≤ 9223372036854775807 then (if 12 ≤ 13 then (if 13 ≤ (a0.size : Int) then (if (((a0.extract 0 1) ++ (a0.extract 3 4)) ++ (a0.extract 7 8)).size + (a0.extract 12 13).size ≤ 9223372036854775807 then (if 21 ≤ 22 then (if 22 ≤ (a0.size : Int) then (if ((((a0.extract 0 1) ++ (a0.extract 3 4)) ++ (a0.extract 7 8)) ++ (a0.extract 12 13)).size + (a0.extract 21 22).size ≤ 9223372036854775807 then (if 27 ≤ (a0.size : Int) then (if (((((a0.extract 0 1) ++ (a0.extract 3 4)) ++ (a0.extract 7 8)) ++ (a0.extract 12 13)) ++ (a0.extract 21 22)).size + (a0.extract 27 a0.size).size ≤ 9223372036854775807 then (letterboxref11_ParseInternal.j0 k a0 (((((((a0.extract 0 1) ++ (a0.extract 3 4)) ++ (a0.extract 7 8)) ++ (a0.extract 12 13)) ++ (a0.extract 21 22)) ++ (a0.extract 27 a0.size)).toList != ([34, 45, 45, 32, 32, 34] : List UInt8))) else (none)) else (none)) else (none)) else (none)) else (none)) else (none)) else (none)) else (none)) else (none)) else (none)) else (none)) else (none)) else (none)) else (none)) else (none)) else (none)) else (letterboxref11_ParseInternal.j0 k a0 true)) = some (r1, r2, r3) := h
 clear h
 have HC2 := Aside0.mk H
 clear H
 go_enter Tryd.func11, Tryd.ntmps11
 go_upto_region 1 with (first | ((with_reducible refine gate_dst (N := 2) rfl ?_); refine box_event ?hg (N := 2) ?hd (cs := #[.int .i64 0, .int .i64 0]) (t := 27) ?hr ?_; (case hd => rfl); (case hg => rfl); (case hr => first | (go_simp; done) | (go_simp; rfl)); intro gb302 hg w3 hbox hb; have n0_ := Aside0.mk (below_step (qb_ HB.out) hb); have n1_ := Aside0.mk (hbox); have n2_ := Aside0.mk ((by rw [hg]; exact (below_size (qb_ HB.out)) : w.heap.size ≤ gb302)); have n3_ := Aside0.mk ((by rw [hg]; exact (below_size (qb_ HB.out)) : w.heap.size ≤ gb302)); clear HB; have HB := n0_; have BK302 := n1_; have GW302 := n2_; have GE302 := n3_; clear n0_ n1_ n2_ n3_; clear hb hbox hg))
 (try simp only [Act.put, List.setIfInBounds_toArray, List.set_cons_zero, List.set_cons_succ])
 go_cut [32] (fun v32 wc => ∃ (kq : Nat) (x32_1 : Bool), v32 = .bool x32_1 ∧ Aside0 (letterboxref11_ParseInternal.j0 kq a0 x32_1 = some (r1, r2, r3)) ∧ Aside0 (kq ≤ k) ∧ Aside0 (wc.heap[gb302]? = some (.cells #[.int .i64 0, .int .i64 0] 27 (0, 0))) ∧ Aside0 (Below w.heap.size w wc))
 case first =>
  have H := HC2.out
  clear HC2
  by_cases c4 : (a0.size : Int) = 28
  ·rw [if_pos c4] at H
   have c4b0 : ((a0.size : Int) == 28) = true := beq_iff_eq.mpr c4
   have c4b1 : ((a0.size : Int) != 28) = false := bne_eq_false_iff_eq.mpr c4
   clear c4
   (first | rw [c4b0] | (simp only [i64_w, i32_w]; rw [c4b0]) | skip)
   by_cases c5 : 0 ≤ 1
   ·rw [if_pos c5] at H
    have c5b0 := eq_true c5
    have c5b1 : decide (0 ≤ 1) = true := decide_eq_true c5
    clear c5
    by_cases c6 : 1 ≤ (a0.size : Int)
    ·rw [if_pos c6] at H
     have c6b0 := eq_true c6
     have c6b1 : decide (1 ≤ (a0.size : Int)) = true := decide_eq_true c6
     clear c6
     by_cases c7 : 3 ≤ 4
     ·rw [if_pos c7] at H
      have c7b0 := eq_true c7
      have c7b1 : decide (3 ≤ 4) = true := decide_eq_true c7
      clear c7
      by_cases c8 : 4 ≤ (a0.size : Int)
      ·rw [if_pos c8] at H
       have c8b0 := eq_true c8
       have c8b1 : decide (4 ≤ (a0.size : Int)) = true := decide_eq_true c8
       clear c8
       by_cases c9 : (a0.extract 0 1).size + (a0.extract 3 4).size ≤ 9223372036854775807
       ·rw [if_pos c9] at H
        have c9b0 := eq_true c9
        have c9b1 : decide ((a0.extract 0 1).size + (a0.extract 3 4).size ≤ 9223372036854775807) = true := decide_eq_true c9
        try have c9b2 : (9223372036854775807 < (a0.extract 0 1).size + (a0.extract 3 4).size) = False := eq_false (Nat.not_lt.2 c9)
        (try (have c9h := c9; simp only [ByteArray.size_append, ByteArray.size_extract, Int.toNat_natCast, Nat.sub_zero, Nat.min_self, ByteArray.extract_zero_size] at c9h; have c9b7 := eq_false (Nat.not_lt.2 c9h); clear c9h))
        try have c9b5 : (9223372036854775807 < 1 + (4 - 3)) = False := eq_false (Nat.not_lt.2 (by have h_ := c9; simp only [ByteArray.size_append, ByteArray.size_extract] at h_ ⊢; omega))
        by_cases c10 : 7 ≤ 8
        ·rw [if_pos c10] at H
         have c10b0 := eq_true c10
         have c10b1 : decide (7 ≤ 8) = true := decide_eq_true c10
         clear c10
         by_cases c11 : 8 ≤ (a0.size : Int)
         ·rw [if_pos c11] at H
          have c11b0 := eq_true c11
          have c11b1 : decide (8 ≤ (a0.size : Int)) = true := decide_eq_true c11
          clear c11
          by_cases c12 : ((a0.extract 0 1) ++ (a0.extract 3 4)).size + (a0.extract 7 8).size ≤ 9223372036854775807
          ·rw [if_pos c12] at H
           have c12b0 := eq_true c12
           have c12b1 : decide (((a0.extract 0 1) ++ (a0.extract 3 4)).size + (a0.extract 7 8).size ≤ 9223372036854775807) = true := decide_eq_true c12
           try have c12b2 : (9223372036854775807 < ((a0.extract 0 1) ++ (a0.extract 3 4)).size + (a0.extract 7 8).size) = False := eq_false (Nat.not_lt.2 c12)
           (try (have c12h := c12; simp only [ByteArray.size_append, ByteArray.size_extract, Int.toNat_natCast, Nat.sub_zero, Nat.min_self, ByteArray.extract_zero_size] at c12h; have c12b7 := eq_false (Nat.not_lt.2 c12h); clear c12h))
           try have c12b5 : (9223372036854775807 < (1 + (4 - 3)) + (8 - 7)) = False := eq_false (Nat.not_lt.2 (by have h_ := c12; simp only [ByteArray.size_append, ByteArray.size_extract] at h_ ⊢; omega))
           by_cases c13 : 12 ≤ 13
           ·rw [if_pos c13] at H
            have c13b0 := eq_true c13
            have c13b1 : decide (12 ≤ 13) = true := decide_eq_true c13
            clear c13
            by_cases c14 : 13 ≤ (a0.size : Int)
            ·rw [if_pos c14] at H
             have c14b0 := eq_true c14
             have c14b1 : decide (13 ≤ (a0.size : Int)) = true := decide_eq_true c14
             clear c14
             by_cases c15 : (((a0.extract 0 1) ++ (a0.extract 3 4)) ++ (a0.extract 7 8)).size + (a0.extract 12 13).size ≤ 9223372036854775807
             ·rw [if_pos c15] at H
              have c15b0 := eq_true c15
              have c15b1 : decide ((((a0.extract 0 1) ++ (a0.extract 3 4)) ++ (a0.extract 7 8)).size + (a0.extract 12 13).size ≤ 9223372036854775807) = true := decide_eq_true c15
              try have c15b2 : (9223372036854775807 < (((a0.extract 0 1) ++ (a0.extract 3 4)) ++ (a0.extract 7 8)).size + (a0.extract 12 13).size) = False := eq_false (Nat.not_lt.2 c15)
              (try (have c15h := c15; simp only [ByteArray.size_append, ByteArray.size_extract, Int.toNat_natCast, Nat.sub_zero, Nat.min_self, ByteArray.extract_zero_size] at c15h; have c15b7 := eq_false (Nat.not_lt.2 c15h); clear c15h))
              try have c15b5 : (9223372036854775807 < ((1 + (4 - 3)) + (8 - 7)) + (13 - 12)) = False := eq_false (Nat.not_lt.2 (by have h_ := c15; simp only [ByteArray.size_append, ByteArray.size_extract] at h_ ⊢; omega))
              by_cases c16 : 21 ≤ 22
              ·rw [if_pos c16] at H
               have c16b0 := eq_true c16
               have c16b1 : decide (21 ≤ 22) = true := decide_eq_true c16
               clear c16
               by_cases c17 : 22 ≤ (a0.size : Int)
               ·rw [if_pos c17] at H
                have c17b0 := eq_true c17
                have c17b1 : decide (22 ≤ (a0.size : Int)) = true := decide_eq_true c17
                clear c17
                by_cases c18 : ((((a0.extract 0 1) ++ (a0.extract 3 4)) ++ (a0.extract 7 8)) ++ (a0.extract 12 13)).size + (a0.extract 21 22).size ≤ 9223372036854775807
                ·rw [if_pos c18] at H
                 have c18b0 := eq_true c18
                 have c18b1 : decide (((((a0.extract 0 1) ++ (a0.extract 3 4)) ++ (a0.extract 7 8)) ++ (a0.extract 12 13)).size + (a0.extract 21 22).size ≤ 9223372036854775807) = true := decide_eq_true c18
                 try have c18b2 : (9223372036854775807 < ((((a0.extract 0 1) ++ (a0.extract 3 4)) ++ (a0.extract 7 8)) ++ (a0.extract 12 13)).size + (a0.extract 21 22).size) = False := eq_false (Nat.not_lt.2 c18)
                 (try (have c18h := c18; simp only [ByteArray.size_append, ByteArray.size_extract, Int.toNat_natCast, Nat.sub_zero, Nat.min_self, ByteArray.extract_zero_size] at c18h; have c18b7 := eq_false (Nat.not_lt.2 c18h); clear c18h))
                 try have c18b5 : (9223372036854775807 < (((1 + (4 - 3)) + (8 - 7)) + (13 - 12)) + (22 - 21)) = False := eq_false (Nat.not_lt.2 (by have h_ := c18; simp only [ByteArray.size_append, ByteArray.size_extract] at h_ ⊢; omega))
                 by_cases c19 : 27 ≤ (a0.size : Int)
                 ·rw [if_pos c19] at H
                  have c19b0 := eq_true c19
                  have c19b1 : decide (27 ≤ (a0.size : Int)) = true := decide_eq_true c19
                  clear c19
                  by_cases c20 : (((((a0.extract 0 1) ++ (a0.extract 3 4)) ++ (a0.extract 7 8)) ++ (a0.extract 12 13)) ++ (a0.extract 21 22)).size + (a0.extract 27 a0.size).size ≤ 9223372036854775807
                  ·rw [if_pos c20] at H
                   have c20b0 := eq_true c20
                   have c20b1 : decide ((((((a0.extract 0 1) ++ (a0.extract 3 4)) ++ (a0.extract 7 8)) ++ (a0.extract 12 13)) ++ (a0.extract 21 22)).size + (a0.extract 27 a0.size).size ≤ 9223372036854775807) = true := decide_eq_true c20
                   try have c20b2 : (9223372036854775807 < (((((a0.extract 0 1) ++ (a0.extract 3 4)) ++ (a0.extract 7 8)) ++ (a0.extract 12 13)) ++ (a0.extract 21 22)).size + (a0.extract 27 a0.size).size) = False := eq_false (Nat.not_lt.2 c20)
                   (try (have c20h := c20; simp only [ByteArray.size_append, ByteArray.size_extract, Int.toNat_natCast, Nat.sub_zero, Nat.min_self, ByteArray.extract_zero_size] at c20h; have c20b7 := eq_false (Nat.not_lt.2 c20h); clear c20h))
                   try have c20b5 : (9223372036854775807 < ((((1 + (4 - 3)) + (8 - 7)) + (13 - 12)) + (22 - 21)) + (a0.size - 27)) = False := eq_false (Nat.not_lt.2 (by have h_ := c20; simp only [ByteArray.size_append, ByteArray.size_extract] at h_ ⊢; omega))
                   have H' := Aside0.mk H
                   clear H
                   try go_wp2
                   have n0_ := Aside0.mk (blk_drew BK302.out)
                   have n1_ := Aside0.mk (below_drew1 HB.out)
                   clear BK302
                   clear HB
                   have BK302 := n0_
                   have HB := n1_
                   clear n0_ n1_
                   refine start_ (n := 23) (S := fun w' => True) (ds := []) #[false, false, false, false, false, false, false, false, false, false, false, false, false, false, false, false, false, false, false, false, false, false, false] (by kernel_rfl) rfl rfl trivial (fun hHeld => ?_); refine with_tabW letterboxref11_ParseInternal.tab1 letterboxref11_ParseInternal.bits1 (fun HT_ HW_ => ?_)
                   generalize w3.drew = w21 at BK302 HB hHeld ⊢
                   refine pure_ (i := 0) (N := some 10) (v := ?_) (a' := ?_) #[true, false, false, false, false, false, false, false, false, false, false, false, false, false, false, false, false, false, false, false, false, false, false] rfl rfl (any_of HT_.out (by kernel_rfl)) (fun _ _ _ h => h) (Or.inl ⟨by rfl, ?_⟩) ?_ ?_
                   rotate_left
                   ·intro w'
                    go_simp
                    with_reducible rfl
                   rotate_left
                   ·simp only [Act.put, List.setIfInBounds_toArray, List.set_cons_zero, List.set_cons_succ, i64_w, i32_w]
                    rfl
                   refine pure_ (i := 1) (N := some 11) (v := ?_) (a' := ?_) #[true, true, false, false, false, false, false, false, false, false, false, false, false, false, false, false, false, false, false, false, false, false, false] rfl rfl (any_of HT_.out (by kernel_rfl)) (fun _ _ _ h => h) (Or.inl ⟨by rfl, ?_⟩) ?_ ?_
                   rotate_left
                   ·intro w'
                    go_simp
                    with_reducible rfl
                   rotate_left
                   ·simp only [Act.put, List.setIfInBounds_toArray, List.set_cons_zero, List.set_cons_succ, i64_w, i32_w]
                    rfl
                   refine pure_ (i := 2) (N := some 12) (v := ?_) (a' := ?_) #[true, true, true, false, false, false, false, false, false, false, false, false, false, false, false, false, false, false, false, false, false, false, false] rfl rfl (any_of HT_.out (by kernel_rfl)) (fun _ _ _ h => h) (Or.inl ⟨by rfl, ?_⟩) ?_ ?_
                   rotate_left
                   ·intro w'
                    go_simp
                    with_reducible rfl
                   rotate_left
                   ·simp only [Act.put, List.setIfInBounds_toArray, List.set_cons_zero, List.set_cons_succ, i64_w, i32_w]
                    rfl
                   refine pure_ (i := 3) (N := some 13) (v := ?_) (a' := ?_) #[true, true, true, true, false, false, false, false, false, false, false, false, false, false, false, false, false, false, false, false, false, false, false] rfl rfl (any_of HT_.out (by kernel_rfl)) (fun _ _ _ h => h) (Or.inl ⟨by rfl, ?_⟩) ?_ ?_
                   rotate_left
                   ·intro w'
                    go_simp
                    with_reducible rfl
                   rotate_left
                   ·simp only [Act.put, List.setIfInBounds_toArray, List.set_cons_zero, List.set_cons_succ, i64_w, i32_w]
                    rfl
                   refine pure_ (i := 4) (N := some 14) (v := ?_) (a' := ?_) #[true, true, true, true, true, false, false, false, false, false, false, false, false, false, false, false, false, false, false, false, false, false, false] rfl rfl (any_of HT_.out (by kernel_rfl)) (fun _ _ _ h => h) (Or.inl ⟨by rfl, ?_⟩) ?_ ?_
                   rotate_left
                   ·intro w'
                    go_simp
                    with_reducible rfl
                   rotate_left
                   ·simp only [Act.put, List.setIfInBounds_toArray, List.set_cons_zero, List.set_cons_succ, i64_w, i32_w]
                    rfl
                   refine pure_ (i := 5) (N := some 15) (v := ?_) (a' := ?_) #[true, true, true, true, true, true, false, false, false, false, false, false, false, false, false, false, false, false, false, false, false, false, false] rfl rfl (any_of HT_.out (by kernel_rfl)) (fun _ _ _ h => h) (Or.inl ⟨by rfl, ?_⟩) ?_ ?_
                   rotate_left
                   ·intro w'
                    go_simp
                    with_reducible rfl
                   rotate_left
                   ·simp only [Act.put, List.setIfInBounds_toArray, List.set_cons_zero, List.set_cons_succ, i64_w, i32_w]
                    rfl
                   refine pure_ (i := 6) (N := some 16) (v := ?_) (a' := ?_) #[true, true, true, true, true, true, true, false, false, false, false, false, false, false, false, false, false, false, false, false, false, false, false] rfl rfl (any_of HT_.out (by kernel_rfl)) (fun _ _ _ h => h) (Or.inl ⟨by rfl, ?_⟩) ?_ ?_
                   rotate_left
                   ·intro w'
                    go_simp
                    with_reducible rfl
                   rotate_left
                   ·simp only [Act.put, List.setIfInBounds_toArray, List.set_cons_zero, List.set_cons_succ, i64_w, i32_w]
                    rfl
                   refine pure_ (i := 7) (N := some 17) (v := ?_) (a' := ?_) #[true, true, true, true, true, true, true, true, false, false, false, false, false, false, false, false, false, false, false, false, false, false, false] rfl rfl (any_of HT_.out (by kernel_rfl)) (fun _ _ _ h => h) (Or.inl ⟨by rfl, ?_⟩) ?_ ?_
                   rotate_left
                   ·intro w'
                    go_simp
                    with_reducible rfl
                   rotate_left
                   ·simp only [Act.put, List.setIfInBounds_toArray, List.set_cons_zero, List.set_cons_succ, i64_w, i32_w]
                    rfl
                   refine pure_ (i := 8) (N := some 18) (v := ?_) (a' := ?_) #[true, true, true, true, true, true, true, true, true, false, false, false, false, false, false, false, false, false, false, false, false, false, false] rfl rfl (any_of HT_.out (by kernel_rfl)) (fun _ _ _ h => h) (Or.inl ⟨by rfl, ?_⟩) ?_ ?_
                   rotate_left
                   ·intro w'
                    go_simp
                    with_reducible rfl
                   rotate_left
                   ·simp only [Act.put, List.setIfInBounds_toArray, List.set_cons_zero, List.set_cons_succ, i64_w, i32_w]
                    rfl
                   refine pure_ (i := 9) (N := some 19) (v := ?_) (a' := ?_) #[true, true, true, true, true, true, true, true, true, true, false, false, false, false, false, false, false, false, false, false, false, false, false] rfl rfl (any_of HT_.out (by kernel_rfl)) (fun _ _ _ h => h) (Or.inl ⟨by rfl, ?_⟩) ?_ ?_
                   rotate_left
                   ·intro w'
                    go_simp
                    with_reducible rfl
                   rotate_left
                   ·simp only [Act.put, List.setIfInBounds_toArray, List.set_cons_zero, List.set_cons_succ, i64_w, i32_w]
                    rfl
                   refine pure_ (i := 10) (N := some 20) (v := ?_) (a' := ?_) #[true, true, true, true, true, true, true, true, true, true, true, false, false, false, false, false, false, false, false, false, false, false, false] rfl rfl (any_of HT_.out (by kernel_rfl)) (fun _ _ _ h => h) (Or.inl ⟨by rfl, ?_⟩) ?_ ?_
                   rotate_left
                   ·intro w'
                    go_simp
                    with_reducible rfl
                   rotate_left
                   ·simp only [Act.put, List.setIfInBounds_toArray, List.set_cons_zero, List.set_cons_succ, i64_w, i32_w]
                    rfl
                   refine pure_ (i := 11) (N := some 21) (v := ?_) (a' := ?_) #[true, true, true, true, true, true, true, true, true, true, true, true, false, false, false, false, false, false, false, false, false, false, false] rfl rfl (any_of HT_.out (by kernel_rfl)) (fun _ _ _ h => h) (Or.inl ⟨by rfl, ?_⟩) ?_ ?_
                   rotate_left
                   ·intro w'
                    go_simp
                    with_reducible rfl
                   rotate_left
                   ·simp only [Act.put, List.setIfInBounds_toArray, List.set_cons_zero, List.set_cons_succ, i64_w, i32_w]
                    rfl
                   refine pure_ (i := 12) (N := some 22) (v := ?_) (a' := ?_) #[true, true, true, true, true, true, true, true, true, true, true, true, true, false, false, false, false, false, false, false, false, false, false] rfl rfl (any_of HT_.out (by kernel_rfl)) (fun _ _ _ h => h) (Or.inl ⟨by rfl, ?_⟩) ?_ ?_
                   rotate_left
                   ·intro w'
                    go_simp
                    with_reducible rfl
                   rotate_left
                   ·simp only [Act.put, List.setIfInBounds_toArray, List.set_cons_zero, List.set_cons_succ, i64_w, i32_w]
                    rfl
                   refine pure_ (i := 13) (N := some 23) (v := ?_) (a' := ?_) #[true, true, true, true, true, true, true, true, true, true, true, true, true, true, false, false, false, false, false, false, false, false, false] rfl rfl (any_of HT_.out (by kernel_rfl)) (fun _ _ _ h => h) (Or.inl ⟨by rfl, ?_⟩) ?_ ?_
                   rotate_left
                   ·intro w'
                    go_simp
                    with_reducible rfl
                   rotate_left
                   ·simp only [Act.put, List.setIfInBounds_toArray, List.set_cons_zero, List.set_cons_succ, i64_w, i32_w]
                    rfl
                   refine pure_ (i := 14) (N := some 24) (v := ?_) (a' := ?_) #[true, true, true, true, true, true, true, true, true, true, true, true, true, true, true, false, false, false, false, false, false, false, false] rfl rfl (any_of HT_.out (by kernel_rfl)) (fun _ _ _ h => h) (Or.inl ⟨by rfl, ?_⟩) ?_ ?_
                   rotate_left
                   ·intro w'
                    go_simp
                    with_reducible rfl
                   rotate_left
                   ·simp only [Act.put, List.setIfInBounds_toArray, List.set_cons_zero, List.set_cons_succ, i64_w, i32_w]
                    rfl
                   refine pure_ (i := 15) (N := some 25) (v := ?_) (a' := ?_) #[true, true, true, true, true, true, true, true, true, true, true, true, true, true, true, true, false, false, false, false, false, false, false] rfl rfl (any_of HT_.out (by kernel_rfl)) (fun _ _ _ h => h) (Or.inl ⟨by rfl, ?_⟩) ?_ ?_
                   rotate_left
                   ·intro w'
                    go_simp
                    with_reducible rfl
                   rotate_left
                   ·simp only [Act.put, List.setIfInBounds_toArray, List.set_cons_zero, List.set_cons_succ, i64_w, i32_w]
                    rfl
                   refine pure_ (i := 16) (N := some 26) (v := ?_) (a' := ?_) #[true, true, true, true, true, true, true, true, true, true, true, true, true, true, true, true, true, false, false, false, false, false, false] rfl rfl (any_of HT_.out (by kernel_rfl)) (fun _ _ _ h => h) (Or.inl ⟨by rfl, ?_⟩) ?_ ?_
                   rotate_left
                   ·intro w'
                    go_simp
                    with_reducible rfl
                   rotate_left
                   ·simp only [Act.put, List.setIfInBounds_toArray, List.set_cons_zero, List.set_cons_succ, i64_w, i32_w]
                    rfl
                   refine pure_ (i := 17) (N := some 27) (v := ?_) (a' := ?_) #[true, true, true, true, true, true, true, true, true, true, true, true, true, true, true, true, true, true, false, false, false, false, false] rfl rfl (any_of HT_.out (by kernel_rfl)) (fun _ _ _ h => h) (Or.inl ⟨by rfl, ?_⟩) ?_ ?_
                   rotate_left
                   ·intro w'
                    go_simp
                    with_reducible rfl
                   rotate_left
                   ·simp only [Act.put, List.setIfInBounds_toArray, List.set_cons_zero, List.set_cons_succ, i64_w, i32_w]
                    rfl
                   refine pure_ (i := 18) (N := some 28) (v := ?_) (a' := ?_) #[true, true, true, true, true, true, true, true, true, true, true, true, true, true, true, true, true, true, true, false, false, false, false] rfl rfl (any_of HT_.out (by kernel_rfl)) (fun _ _ _ h => h) (Or.inl ⟨by rfl, ?_⟩) ?_ ?_
                   rotate_left
                   ·intro w'
                    go_simp
                    with_reducible rfl
                   rotate_left
                   ·simp only [Act.put, List.setIfInBounds_toArray, List.set_cons_zero, List.set_cons_succ, i64_w, i32_w]
                    rfl
                   refine pure_ (i := 19) (N := some 29) (v := ?_) (a' := ?_) #[true, true, true, true, true, true, true, true, true, true, true, true, true, true, true, true, true, true, true, true, false, false, false] rfl rfl (any_of HT_.out (by kernel_rfl)) (fun _ _ _ h => h) (Or.inl ⟨by rfl, ?_⟩) ?_ ?_
                   rotate_left
                   ·intro w'
                    go_simp
                    with_reducible rfl
                   rotate_left
                   ·simp only [Act.put, List.setIfInBounds_toArray, List.set_cons_zero, List.set_cons_succ, i64_w, i32_w]
                    rfl
                   refine pure_ (i := 20) (N := some 30) (v := ?_) (a' := ?_) #[true, true, true, true, true, true, true, true, true, true, true, true, true, true, true, true, true, true, true, true, true, false, false] rfl rfl (any_of HT_.out (by kernel_rfl)) (fun _ _ _ h => h) (Or.inl ⟨by rfl, ?_⟩) ?_ ?_
                   rotate_left
                   ·intro w'
                    go_simp
                    with_reducible rfl
                   rotate_left
                   ·simp only [Act.put, List.setIfInBounds_toArray, List.set_cons_zero, List.set_cons_succ, i64_w, i32_w]
                    rfl
                   refine pure_ (i := 21) (N := some 31) (v := ?_) (a' := ?_) #[true, true, true, true, true, true, true, true, true, true, true, true, true, true, true, true, true, true, true, true, true, true, false] rfl rfl (any_of HT_.out (by kernel_rfl)) (fun _ _ _ h => h) (Or.inl ⟨by rfl, ?_⟩) ?_ ?_
                   rotate_left
                   ·intro w'
                    go_simp
                    with_reducible rfl
                   rotate_left
                   ·simp only [Act.put, List.setIfInBounds_toArray, List.set_cons_zero, List.set_cons_succ, i64_w, i32_w]
                    rfl
                   refine pure_ (i := 22) (N := some 32) (v := ?_) (a' := ?_) #[true, true, true, true, true, true, true, true, true, true, true, true, true, true, true, true, true, true, true, true, true, true, true] rfl rfl (any_of HT_.out (by kernel_rfl)) (fun _ _ _ h => h) (Or.inl ⟨by rfl, ?_⟩) ?_ ?_
                   rotate_left
                   ·intro w'
                    go_simp
                    with_reducible rfl
                   rotate_left
                   ·simp only [Act.put, List.setIfInBounds_toArray, List.set_cons_zero, List.set_cons_succ, i64_w, i32_w]
                    rfl
                   refine done_ (done_of HT_.out (by kernel_rfl)) ?_
                   try go_wp2
                   go_meet
                   case rel => exact ⟨_, ((((((((a0.extract 0 1) ++ (a0.extract 3 4)) ++ (a0.extract 7 8)) ++ (a0.extract 12 13)) ++ (a0.extract 21 22)) ++ (a0.extract 27 a0.size)).toList != ([34, 45, 45, 32, 32, 34] : List UInt8))), qr_, H', ⟨by first | omega | exact Nat.le_refl _⟩, ⟨qk_ BK302.out⟩, ⟨qb_ HB.out⟩⟩
                  ·rw [if_neg c20] at H
                   exact absurd H (by simp)
                 ·rw [if_neg c19] at H
                  exact absurd H (by simp)
                ·rw [if_neg c18] at H
                 exact absurd H (by simp)
               ·rw [if_neg c17] at H
                exact absurd H (by simp)
              ·rw [if_neg c16] at H
               exact absurd H (by simp)
             ·rw [if_neg c15] at H
              exact absurd H (by simp)
            ·rw [if_neg c14] at H
             exact absurd H (by simp)
           ·rw [if_neg c13] at H
            exact absurd H (by simp)
          ·rw [if_neg c12] at H
           exact absurd H (by simp)
         ·rw [if_neg c11] at H
          exact absurd H (by simp)
        ·rw [if_neg c10] at H
         exact absurd H (by simp)
       ·rw [if_neg c9] at H
        exact absurd H (by simp)
      ·rw [if_neg c8] at H
       exact absurd H (by simp)
     ·rw [if_neg c7] at H
      exact absurd H (by simp)
    ·rw [if_neg c6] at H
     exact absurd H (by simp)
   ·rw [if_neg c5] at H
    exact absurd H (by simp)
  ·rw [if_neg c4] at H
   have c4b0 : ((a0.size : Int) == 28) = false := beq_eq_false_iff_ne.mpr c4
   have c4b1 : ((a0.size : Int) != 28) = true := bne_iff_ne.mpr c4
   (first | rw [c4b0] | (simp only [i64_w, i32_w]; rw [c4b0]) | skip)
   have H' := Aside0.mk H
   clear H
   try go_wp2
   have n0_ := Aside0.mk (blk_drew BK302.out)
   have n1_ := Aside0.mk (below_drew1 HB.out)
   clear BK302
   clear HB
   have BK302 := n0_
   have HB := n1_
   clear n0_ n1_
   refine start_ (n := 23) (S := fun w' => True) (ds := []) #[false, false, false, false, false, false, false, false, false, false, false, false, false, false, false, false, false, false, false, false, false, false, false] (by kernel_rfl) rfl rfl trivial (fun hHeld => ?_); refine with_tabW letterboxref11_ParseInternal.tab1 letterboxref11_ParseInternal.bits1 (fun HT_ HW_ => ?_)
   generalize w3.drew = w22 at BK302 HB hHeld ⊢
   refine pure_ (i := 0) (N := some 10) (v := ?_) (a' := ?_) #[true, false, false, false, false, false, false, false, false, false, false, false, false, false, false, false, false, false, false, false, false, false, false] rfl rfl (any_of HT_.out (by kernel_rfl)) (fun _ _ _ h => h) (Or.inl ⟨by rfl, ?_⟩) ?_ ?_
   rotate_left
   ·intro w'
    go_simp
    with_reducible rfl
   rotate_left
   ·simp only [Act.put, List.setIfInBounds_toArray, List.set_cons_zero, List.set_cons_succ, i64_w, i32_w]
    rfl
   refine pure_ (i := 1) (N := some 11) (v := ?_) (a' := ?_) #[true, true, false, false, false, false, false, false, false, false, false, false, false, false, false, false, false, false, false, false, false, false, false] rfl rfl (any_of HT_.out (by kernel_rfl)) (fun _ _ _ h => h) (Or.inl ⟨by rfl, ?_⟩) ?_ ?_
   rotate_left
   ·intro w'
    go_simp
    with_reducible rfl
   rotate_left
   ·simp only [Act.put, List.setIfInBounds_toArray, List.set_cons_zero, List.set_cons_succ, i64_w, i32_w]
    rfl
   refine pure_ (i := 2) (N := some 12) (v := ?_) (a' := ?_) #[true, true, true, false, false, false, false, false, false, false, false, false, false, false, false, false, false, false, false, false, false, false, false] rfl rfl (any_of HT_.out (by kernel_rfl)) (fun _ _ _ h => h) (Or.inl ⟨by rfl, ?_⟩) ?_ ?_
   rotate_left
   ·intro w'
    go_simp
    with_reducible rfl
   rotate_left
   ·simp only [Act.put, List.setIfInBounds_toArray, List.set_cons_zero, List.set_cons_succ, i64_w, i32_w]
    rfl
   refine pure_ (i := 3) (N := some 13) (v := ?_) (a' := ?_) #[true, true, true, true, false, false, false, false, false, false, false, false, false, false, false, false, false, false, false, false, false, false, false] rfl rfl (any_of HT_.out (by kernel_rfl)) (fun _ _ _ h => h) (Or.inl ⟨by rfl, ?_⟩) ?_ ?_
   rotate_left
   ·intro w'
    go_simp
    with_reducible rfl
   rotate_left
   ·simp only [Act.put, List.setIfInBounds_toArray, List.set_cons_zero, List.set_cons_succ, i64_w, i32_w]
    rfl
   refine pure_ (i := 4) (N := some 14) (v := undef) (a' := ?_) #[true, true, true, true, true, false, false, false, false, false, false, false, false, false, false, false, false, false, false, false, false, false, false] rfl rfl (any_of HT_.out (by kernel_rfl)) (fun _ _ _ h => h) (Or.inr ⟨by rfl, rfl⟩) ?_ ?_
   rotate_left
   ·simp only [Act.put, List.setIfInBounds_toArray, List.set_cons_zero, List.set_cons_succ, i64_w, i32_w]
    rfl
   refine pure_ (i := 5) (N := some 15) (v := undef) (a' := ?_) #[true, true, true, true, true, true, false, false, false, false, false, false, false, false, false, false, false, false, false, false, false, false, false] rfl rfl (any_of HT_.out (by kernel_rfl)) (fun _ _ _ h => h) (Or.inr ⟨by rfl, rfl⟩) ?_ ?_
   rotate_left
   ·simp only [Act.put, List.setIfInBounds_toArray, List.set_cons_zero, List.set_cons_succ, i64_w, i32_w]
    rfl
   refine pure_ (i := 6) (N := some 16) (v := undef) (a' := ?_) #[true, true, true, true, true, true, true, false, false, false, false, false, false, false, false, false, false, false, false, false, false, false, false] rfl rfl (any_of HT_.out (by kernel_rfl)) (fun _ _ _ h => h) (Or.inr ⟨by rfl, rfl⟩) ?_ ?_
   rotate_left
   ·simp only [Act.put, List.setIfInBounds_toArray, List.set_cons_zero, List.set_cons_succ, i64_w, i32_w]
    rfl
   refine pure_ (i := 7) (N := some 17) (v := undef) (a' := ?_) #[true, true, true, true, true, true, true, true, false, false, false, false, false, false, false, false, false, false, false, false, false, false, false] rfl rfl (any_of HT_.out (by kernel_rfl)) (fun _ _ _ h => h) (Or.inr ⟨by rfl, rfl⟩) ?_ ?_
   rotate_left
   ·simp only [Act.put, List.setIfInBounds_toArray, List.set_cons_zero, List.set_cons_succ, i64_w, i32_w]
    rfl
   refine pure_ (i := 8) (N := some 18) (v := undef) (a' := ?_) #[true, true, true, true, true, true, true, true, true, false, false, false, false, false, false, false, false, false, false, false, false, false, false] rfl rfl (any_of HT_.out (by kernel_rfl)) (fun _ _ _ h => h) (Or.inr ⟨by rfl, rfl⟩) ?_ ?_
   rotate_left
   ·simp only [Act.put, List.setIfInBounds_toArray, List.set_cons_zero, List.set_cons_succ, i64_w, i32_w]
    rfl
   refine pure_ (i := 9) (N := some 19) (v := undef) (a' := ?_) #[true, true, true, true, true, true, true, true, true, true, false, false, false, false, false, false, false, false, false, false, false, false, false] rfl rfl (any_of HT_.out (by kernel_rfl)) (fun _ _ _ h => h) (Or.inr ⟨by rfl, rfl⟩) ?_ ?_
   rotate_left
   ·simp only [Act.put, List.setIfInBounds_toArray, List.set_cons_zero, List.set_cons_succ, i64_w, i32_w]
    rfl
   refine pure_ (i := 10) (N := some 20) (v := undef) (a' := ?_) #[true, true, true, true, true, true, true, true, true, true, true, false, false, false, false, false, false, false, false, false, false, false, false] rfl rfl (any_of HT_.out (by kernel_rfl)) (fun _ _ _ h => h) (Or.inr ⟨by rfl, rfl⟩) ?_ ?_
   rotate_left
   ·simp only [Act.put, List.setIfInBounds_toArray, List.set_cons_zero, List.set_cons_succ, i64_w, i32_w]
    rfl
   refine pure_ (i := 11) (N := some 21) (v := undef) (a' := ?_) #[true, true, true, true, true, true, true, true, true, true, true, true, false, false, false, false, false, false, false, false, false, false, false] rfl rfl (any_of HT_.out (by kernel_rfl)) (fun _ _ _ h => h) (Or.inr ⟨by rfl, rfl⟩) ?_ ?_
   rotate_left
   ·simp only [Act.put, List.setIfInBounds_toArray, List.set_cons_zero, List.set_cons_succ, i64_w, i32_w]
    rfl
   refine pure_ (i := 12) (N := some 22) (v := undef) (a' := ?_) #[true, true, true, true, true, true, true, true, true, true, true, true, true, false, false, false, false, false, false, false, false, false, false] rfl rfl (any_of HT_.out (by kernel_rfl)) (fun _ _ _ h => h) (Or.inr ⟨by rfl, rfl⟩) ?_ ?_
   rotate_left
   ·simp only [Act.put, List.setIfInBounds_toArray, List.set_cons_zero, List.set_cons_succ, i64_w, i32_w]
    rfl
   refine pure_ (i := 13) (N := some 23) (v := undef) (a' := ?_) #[true, true, true, true, true, true, true, true, true, true, true, true, true, true, false, false, false, false, false, false, false, false, false] rfl rfl (any_of HT_.out (by kernel_rfl)) (fun _ _ _ h => h) (Or.inr ⟨by rfl, rfl⟩) ?_ ?_
   rotate_left
   ·simp only [Act.put, List.setIfInBounds_toArray, List.set_cons_zero, List.set_cons_succ, i64_w, i32_w]
    rfl
   refine pure_ (i := 14) (N := some 24) (v := undef) (a' := ?_) #[true, true, true, true, true, true, true, true, true, true, true, true, true, true, true, false, false, false, false, false, false, false, false] rfl rfl (any_of HT_.out (by kernel_rfl)) (fun _ _ _ h => h) (Or.inr ⟨by rfl, rfl⟩) ?_ ?_
   rotate_left
   ·simp only [Act.put, List.setIfInBounds_toArray, List.set_cons_zero, List.set_cons_succ, i64_w, i32_w]
    rfl
   refine pure_ (i := 15) (N := some 25) (v := undef) (a' := ?_) #[true, true, true, true, true, true, true, true, true, true, true, true, true, true, true, true, false, false, false, false, false, false, false] rfl rfl (any_of HT_.out (by kernel_rfl)) (fun _ _ _ h => h) (Or.inr ⟨by rfl, rfl⟩) ?_ ?_
   rotate_left
   ·simp only [Act.put, List.setIfInBounds_toArray, List.set_cons_zero, List.set_cons_succ, i64_w, i32_w]
    rfl
   refine pure_ (i := 16) (N := some 26) (v := undef) (a' := ?_) #[true, true, true, true, true, true, true, true, true, true, true, true, true, true, true, true, true, false, false, false, false, false, false] rfl rfl (any_of HT_.out (by kernel_rfl)) (fun _ _ _ h => h) (Or.inr ⟨by rfl, rfl⟩) ?_ ?_
   rotate_left
   ·simp only [Act.put, List.setIfInBounds_toArray, List.set_cons_zero, List.set_cons_succ, i64_w, i32_w]
    rfl
   refine pure_ (i := 17) (N := some 27) (v := undef) (a' := ?_) #[true, true, true, true, true, true, true, true, true, true, true, true, true, true, true, true, true, true, false, false, false, false, false] rfl rfl (any_of HT_.out (by kernel_rfl)) (fun _ _ _ h => h) (Or.inr ⟨by rfl, rfl⟩) ?_ ?_
   rotate_left
   ·simp only [Act.put, List.setIfInBounds_toArray, List.set_cons_zero, List.set_cons_succ, i64_w, i32_w]
    rfl
   refine pure_ (i := 18) (N := some 28) (v := undef) (a' := ?_) #[true, true, true, true, true, true, true, true, true, true, true, true, true, true, true, true, true, true, true, false, false, false, false] rfl rfl (any_of HT_.out (by kernel_rfl)) (fun _ _ _ h => h) (Or.inr ⟨by rfl, rfl⟩) ?_ ?_
   rotate_left
   ·simp only [Act.put, List.setIfInBounds_toArray, List.set_cons_zero, List.set_cons_succ, i64_w, i32_w]
    rfl
   refine pure_ (i := 19) (N := some 29) (v := undef) (a' := ?_) #[true, true, true, true, true, true, true, true, true, true, true, true, true, true, true, true, true, true, true, true, false, false, false] rfl rfl (any_of HT_.out (by kernel_rfl)) (fun _ _ _ h => h) (Or.inr ⟨by rfl, rfl⟩) ?_ ?_
   rotate_left
   ·simp only [Act.put, List.setIfInBounds_toArray, List.set_cons_zero, List.set_cons_succ, i64_w, i32_w]
    rfl
   refine pure_ (i := 20) (N := some 30) (v := undef) (a' := ?_) #[true, true, true, true, true, true, true, true, true, true, true, true, true, true, true, true, true, true, true, true, true, false, false] rfl rfl (any_of HT_.out (by kernel_rfl)) (fun _ _ _ h => h) (Or.inr ⟨by rfl, rfl⟩) ?_ ?_
   rotate_left
   ·simp only [Act.put, List.setIfInBounds_toArray, List.set_cons_zero, List.set_cons_succ, i64_w, i32_w]
    rfl
   refine pure_ (i := 21) (N := some 31) (v := undef) (a' := ?_) #[true, true, true, true, true, true, true, true, true, true, true, true, true, true, true, true, true, true, true, true, true, true, false] rfl rfl (any_of HT_.out (by kernel_rfl)) (fun _ _ _ h => h) (Or.inr ⟨by rfl, rfl⟩) ?_ ?_
   rotate_left
   ·simp only [Act.put, List.setIfInBounds_toArray, List.set_cons_zero, List.set_cons_succ, i64_w, i32_w]
    rfl
   refine pure_ (i := 22) (N := some 32) (v := ?_) (a' := ?_) #[true, true, true, true, true, true, true, true, true, true, true, true, true, true, true, true, true, true, true, true, true, true, true] rfl rfl (any_of HT_.out (by kernel_rfl)) (fun _ _ _ h => h) (Or.inl ⟨by rfl, ?_⟩) ?_ ?_
   rotate_left
   ·intro w'
    go_simp
    with_reducible rfl
   rotate_left
   ·simp only [Act.put, List.setIfInBounds_toArray, List.set_cons_zero, List.set_cons_succ, i64_w, i32_w]
    rfl
   refine done_ (done_of HT_.out (by kernel_rfl)) ?_
   try go_wp2
   go_meet
   case rel => exact ⟨_, (true), qr_, H', ⟨by first | omega | exact Nat.le_refl _⟩, ⟨qk_ BK302.out⟩, ⟨qb_ HB.out⟩⟩
 case rest =>
  clear HC2
  obtain ⟨kq, x32_1, rfl, HA, HJ1, BK302, HB⟩ := hcut
  cases kq with
  | zero => exact absurd HA.out (by simp [letterboxref11_ParseInternal.j0])
  | succ kj1 =>
   have H := HA.out
   clear HA
   simp only [letterboxref11_ParseInternal.j0] at H
   by_cases c23 : x32_1 = true
   ·subst c23
    have H1 : (some (0, 0, false)) = some (r1, r2, r3) := by rw [if_pos rfl] at H; exact H
    clear H
    have H := H1
    clear H1
    simp only [Option.some.injEq, Prod.mk.injEq] at H
    obtain ⟨rfl, rfl, rfl⟩ := H
    obtain ⟨hcz24_0, hcz24_1, hfz24_0, hfz24_1⟩ := cz2_ BK302.out
    go_wp2
    refine bodyPost_ret (results_ct rfl _ _ gb302 27 #[.int .i64 0, .int .i64 0] (0, 0) _ rfl (qs2_ (qk_ BK302.out)) Tryd.underlying27 rfl (by kernel_rfl)) rfl ?_
    exact ⟨qw_, qb_ HB.out⟩
   ·replace c23 := Bool.eq_false_iff.mpr c23
    subst c23
    have H1 : (if 1 ≤ 3 then (if 3 ≤ (a0.size : Int) then ((letterboxref11_digits.f kj1 (a0.extract 1 3) 2 2).bind fun t303 => (if 1 < (a0.size : Int) then (if (bt a0 1) = 32 then (if 2 ≤ 3 then ((letterboxref11_digits.f kj1 (a0.extract 2 3) 1 1).bind fun t304 => (letterboxref11_ParseInternal.j1 kj1 a0 t304)) else (none)) else (letterboxref11_ParseInternal.j1 kj1 a0 t303)) else (none))) else (none)) else (none)) = some (r1, r2, r3) := by rw [if_neg (show ¬ (false = true) by decide)] at H; exact H
    clear H
    have H := H1
    clear H1
    by_cases c25 : 1 ≤ 3
    ·rw [if_pos c25] at H
     have c25b0 := eq_true c25
     have c25b1 : decide (1 ≤ 3) = true := decide_eq_true c25
     clear c25
     by_cases c26 : 3 ≤ (a0.size : Int)
     ·rw [if_pos c26] at H
      have c26b0 := eq_true c26
      have c26b1 : decide (3 ≤ (a0.size : Int)) = true := decide_eq_true c26
      clear c26
      replace H := Option.bind_eq_some_iff.mp H
      obtain ⟨t303, A270, H⟩ := H
      replace H : (if 1 < (a0.size : Int) then (if (bt a0 1) = 32 then (if 2 ≤ 3 then ((letterboxref11_digits.f kj1 (a0.extract 2 3) 1 1).bind fun t304 => (letterboxref11_ParseInternal.j1 kj1 a0 t304)) else (none)) else (letterboxref11_ParseInternal.j1 kj1 a0 t303)) else (none)) = some (r1, r2, r3) := H
      have A27 := Aside0.mk A270
      clear A270
      by_cases c28 : 1 < (a0.size : Int)
      ·rw [if_pos c28] at H
       have c28b0 : decide (1 < (a0.size : Int)) = true := decide_eq_true c28
       have c28b1 : decide (1 < a0.size) = true := decide_eq_true (by omega)
       clear c28
       have HC30 := Aside0.mk H
       clear H
       go_upto_if 39 with (first | ((with_reducible refine gate_callee (f := 29) rfl ?_); refine goesL_ (some 36) rfl rfl Tryd.func29 (by kernel_rfl) rfl #[.string (a0.extract 1 3), .int .i64 2, .int .i64 2] rfl qa_ ?_; (with_reducible refine (letterboxref11_digits.calls kj1 (a0.extract 1 3) 2 2 t303 _ A27.out).mono ?_); rintro e w' ⟨rfl, ⟨nd, rfl⟩⟩; refine ⟨_, rfl, ?_⟩; have p29 : 0 ≤ (1 : Int) := (by omega); have q29 : 1 < a0.size := (by have : (1 : Int) < (a0.size : Int) := qd_; omega); have hx29 : ∀ h : 1 < a0.size, ((a0[1]'h).toNat : Int) = bt a0 1 := bt_at a0 1; clear p29; have qi29 : (1 < (a0.size : Int)) = True := eq_true (qd_); replace q29 := eq_true q29))
       (try simp only [Act.put, List.setIfInBounds_toArray, List.set_cons_zero, List.set_cons_succ])
       go_cut [4] (fun v4 wc => ∃ (kq : Nat) (x4_29 : Int), v4 = .int .i64 x4_29 ∧ Aside0 (letterboxref11_ParseInternal.j1 kq a0 x4_29 = some (r1, r2, r3)) ∧ Aside0 (kq ≤ kj1) ∧ Aside0 (wc.heap[gb302]? = some (.cells #[.int .i64 0, .int .i64 0] 27 (0, 0))) ∧ Aside0 (Below w.heap.size w wc))
       case first =>
        have H := HC30.out
        clear HC30
        by_cases c31 : (bt a0 1) = 32
        ·rw [if_pos c31] at H
         have c31b0 : ((bt a0 1) == 32) = true := beq_iff_eq.mpr c31
         have c31b1 : ((bt a0 1) != 32) = false := bne_eq_false_iff_eq.mpr c31
         clear c31
         (first | rw [c31b0] | (simp only [i64_w, i32_w]; rw [c31b0]) | skip)
         by_cases c32 : 2 ≤ 3
         ·rw [if_pos c32] at H
          have c32b0 := eq_true c32
          have c32b1 : decide (2 ≤ 3) = true := decide_eq_true c32
          clear c32
          have c33b0 := eq_true (qd_ : 3 ≤ (a0.size : Int))
          replace H := Option.bind_eq_some_iff.mp H
          obtain ⟨t304, A340, H⟩ := H
          replace H : (letterboxref11_ParseInternal.j1 kj1 a0 t304) = some (r1, r2, r3) := H
          have A34 := Aside0.mk A340
          clear A340
          have H' := Aside0.mk H
          clear H
          go_wp2_with (first | ((with_reducible refine gate_callee (f := 29) rfl ?_); refine goesL_ (some 42) rfl rfl Tryd.func29 (by kernel_rfl) rfl #[.string (a0.extract 2 3), .int .i64 1, .int .i64 1] rfl qa_ ?_; (with_reducible refine (letterboxref11_digits.calls kj1 (a0.extract 2 3) 1 1 t304 _ A34.out).mono ?_); rintro e w' ⟨rfl, ⟨nd, rfl⟩⟩; refine ⟨_, rfl, ?_⟩))
          go_meet
          case rel => exact ⟨_, (t304), qr_, H', ⟨by have := HJ1.out; first | omega | exact Nat.le_refl _⟩, ⟨qk_ BK302.out⟩, ⟨qb_ HB.out⟩⟩
         ·rw [if_neg c32] at H
          exact absurd H (by simp)
        ·rw [if_neg c31] at H
         have c31b0 : ((bt a0 1) == 32) = false := beq_eq_false_iff_ne.mpr c31
         have c31b1 : ((bt a0 1) != 32) = true := bne_iff_ne.mpr c31
         (first | rw [c31b0] | (simp only [i64_w, i32_w]; rw [c31b0]) | skip)
         have H' := Aside0.mk H
         clear H
         go_wp2
         go_meet
         case rel => exact ⟨_, (t303), qr_, H', ⟨by have := HJ1.out; first | omega | exact Nat.le_refl _⟩, ⟨qk_ BK302.out⟩, ⟨qb_ HB.out⟩⟩
       case rest =>
        clear HC30
        (try clear c23 c25b0 c25b1 c26b0 c26b1)
        obtain ⟨kq, x4_29, rfl, HA, HJ29, BK302, HB⟩ := hcut
        cases kq with
        | zero => exact absurd HA.out (by simp [letterboxref11_ParseInternal.j1])
        | succ kj29 =>
         have H := HA.out
         clear HA
         simp only [letterboxref11_ParseInternal.j1] at H
         by_cases c35 : 8 ≤ 12
         ·rw [if_pos c35] at H
          have c35b0 := eq_true c35
          have c35b1 : decide (8 ≤ 12) = true := decide_eq_true c35
          clear c35
          by_cases c36 : 12 ≤ (a0.size : Int)
          ·rw [if_pos c36] at H
           have c36b0 := eq_true c36
           have c36b1 : decide (12 ≤ (a0.size : Int)) = true := decide_eq_true c36
           clear c36
           replace H := Option.bind_eq_some_iff.mp H
           obtain ⟨t305, A370, H⟩ := H
           replace H : (if 4 ≤ 7 then (if 7 ≤ (a0.size : Int) then ((letterboxref11_month.f kj29 (a0.extract 4 7)).bind fun t306 => ((letterboxref11_number.f kj29 t305 t306 x4_29).bind fun bt307 => (if 13 ≤ 21 then (if 21 ≤ (a0.size : Int) then ((letterboxref11_clock.f kj29 (a0.extract 13 21) true 59).bind fun t309 => (if 22 ≤ 27 then (if 27 ≤ (a0.size : Int) then ((letterboxref11_offset.f kj29 (a0.extract 22 27)).bind fun bt310 => (if bt307.2 = true then (if bt310.2 = true then (if t309 < 0 then (some (0, 0, false)) else (some (wrap64 ((wrap64 ((wrap64 (86400 * bt307.1)) + t309)) - (wrap64 (60 * bt310.1))), bt310.1, true))) else (some (0, 0, false))) else (some (0, 0, false)))) else (none)) else (none))) else (none)) else (none)))) else (none)) else (none)) = some (r1, r2, r3) := H
           have A37 := Aside0.mk A370
           clear A370
           by_cases c38 : 4 ≤ 7
           ·rw [if_pos c38] at H
            have c38b0 := eq_true c38
            have c38b1 : decide (4 ≤ 7) = true := decide_eq_true c38
            clear c38
            by_cases c39 : 7 ≤ (a0.size : Int)
            ·rw [if_pos c39] at H
             have c39b0 := eq_true c39
             have c39b1 : decide (7 ≤ (a0.size : Int)) = true := decide_eq_true c39
             clear c39
             replace H := Option.bind_eq_some_iff.mp H
             obtain ⟨t306, A400, H⟩ := H
             replace H : ((letterboxref11_number.f kj29 t305 t306 x4_29).bind fun bt307 => (if 13 ≤ 21 then (if 21 ≤ (a0.size : Int) then ((letterboxref11_clock.f kj29 (a0.extract 13 21) true 59).bind fun t309 => (if 22 ≤ 27 then (if 27 ≤ (a0.size : Int) then ((letterboxref11_offset.f kj29 (a0.extract 22 27)).bind fun bt310 => (if bt307.2 = true then (if bt310.2 = true then (if t309 < 0 then (some (0, 0, false)) else (some (wrap64 ((wrap64 ((wrap64 (86400 * bt307.1)) + t309)) - (wrap64 (60 * bt310.1))), bt310.1, true))) else (some (0, 0, false))) else (some (0, 0, false)))) else (none)) else (none))) else (none)) else (none))) = some (r1, r2, r3) := H
             have A40 := Aside0.mk A400
             clear A400
             replace H := Option.bind_eq_some_iff.mp H
             obtain ⟨⟨t307, t308⟩, A410, H⟩ := H
             replace H : (if 13 ≤ 21 then (if 21 ≤ (a0.size : Int) then ((letterboxref11_clock.f kj29 (a0.extract 13 21) true 59).bind fun t309 => (if 22 ≤ 27 then (if 27 ≤ (a0.size : Int) then ((letterboxref11_offset.f kj29 (a0.extract 22 27)).bind fun bt310 => (if t308 = true then (if bt310.2 = true then (if t309 < 0 then (some (0, 0, false)) else (some (wrap64 ((wrap64 ((wrap64 (86400 * t307)) + t309)) - (wrap64 (60 * bt310.1))), bt310.1, true))) else (some (0, 0, false))) else (some (0, 0, false)))) else (none)) else (none))) else (none)) else (none)) = some (r1, r2, r3) := H
             have A41 := Aside0.mk A410
             clear A410
             by_cases c42 : 13 ≤ 21
             ·rw [if_pos c42] at H
              have c42b0 := eq_true c42
              have c42b1 : decide (13 ≤ 21) = true := decide_eq_true c42
              clear c42
              by_cases c43 : 21 ≤ (a0.size : Int)
              ·rw [if_pos c43] at H
               have c43b0 := eq_true c43
               have c43b1 : decide (21 ≤ (a0.size : Int)) = true := decide_eq_true c43
               clear c43
               replace H := Option.bind_eq_some_iff.mp H
               obtain ⟨t309, A440, H⟩ := H
               replace H : (if 22 ≤ 27 then (if 27 ≤ (a0.size : Int) then ((letterboxref11_offset.f kj29 (a0.extract 22 27)).bind fun bt310 => (if t308 = true then (if bt310.2 = true then (if t309 < 0 then (some (0, 0, false)) else (some (wrap64 ((wrap64 ((wrap64 (86400 * t307)) + t309)) - (wrap64 (60 * bt310.1))), bt310.1, true))) else (some (0, 0, false))) else (some (0, 0, false)))) else (none)) else (none)) = some (r1, r2, r3) := H
               have A44 := Aside0.mk A440
               clear A440
               by_cases c45 : 22 ≤ 27
               ·rw [if_pos c45] at H
                have c45b0 := eq_true c45
                have c45b1 : decide (22 ≤ 27) = true := decide_eq_true c45
                clear c45
                by_cases c46 : 27 ≤ (a0.size : Int)
                ·rw [if_pos c46] at H
                 have c46b0 := eq_true c46
                 have c46b1 : decide (27 ≤ (a0.size : Int)) = true := decide_eq_true c46
                 clear c46
                 replace H := Option.bind_eq_some_iff.mp H
                 obtain ⟨⟨t310, t311⟩, A470, H⟩ := H
                 replace H : (if t308 = true then (if t311 = true then (if t309 < 0 then (some (0, 0, false)) else (some (wrap64 ((wrap64 ((wrap64 (86400 * t307)) + t309)) - (wrap64 (60 * t310))), t310, true))) else (some (0, 0, false))) else (some (0, 0, false))) = some (r1, r2, r3) := H
                 have A47 := Aside0.mk A470
                 clear A470
                 by_cases c48 : t308 = true
                 ·subst c48
                  have H1 : (if t311 = true then (if t309 < 0 then (some (0, 0, false)) else (some (wrap64 ((wrap64 ((wrap64 (86400 * t307)) + t309)) - (wrap64 (60 * t310))), t310, true))) else (some (0, 0, false))) = some (r1, r2, r3) := by rw [if_pos rfl] at H; exact H
                  clear H
                  have H := H1
                  clear H1
                  by_cases c49 : t311 = true
                  ·subst c49
                   have H1 : (if t309 < 0 then (some (0, 0, false)) else (some (wrap64 ((wrap64 ((wrap64 (86400 * t307)) + t309)) - (wrap64 (60 * t310))), t310, true))) = some (r1, r2, r3) := by rw [if_pos rfl] at H; exact H
                   clear H
                   have H := H1
                   clear H1
                   by_cases c50 : t309 < 0
                   ·rw [if_pos c50] at H
                    have c50b0 : decide (t309 < 0) = true := decide_eq_true c50
                    clear c50
                    simp only [Option.some.injEq, Prod.mk.injEq] at H
                    obtain ⟨rfl, rfl, rfl⟩ := H
                    try go_wp2
                    have n0_ := Aside0.mk (blk_drew BK302.out)
                    have n1_ := Aside0.mk (below_drew1 HB.out)
                    clear BK302
                    clear HB
                    have BK302 := n0_
                    have HB := n1_
                    clear n0_ n1_
                    refine start_ (n := 13) (S := fun w' => True) (ds := []) #[false, false, false, false, false, false, false, false, false, false, false, false, false] (by kernel_rfl) rfl rfl trivial (fun hHeld => ?_); refine with_tabW letterboxref11_ParseInternal.tab6 letterboxref11_ParseInternal.bits6 (fun HT_ HW_ => ?_)
                    generalize wc.drew = w51 at BK302 HB hHeld ⊢
                    refine pure_ (i := 0) (N := some 44) (v := ?_) (a' := ?_) #[true, false, false, false, false, false, false, false, false, false, false, false, false] rfl rfl (any_of HT_.out (by kernel_rfl)) (fun _ _ _ h => h) (Or.inl ⟨by rfl, ?_⟩) ?_ ?_
                    rotate_left
                    ·intro w'
                     go_simp
                     with_reducible rfl
                    rotate_left
                    ·simp only [Act.put, List.setIfInBounds_toArray, List.set_cons_zero, List.set_cons_succ, i64_w, i32_w]
                     rfl
                    refine pure_ (i := 1) (N := some 45) (v := ?_) (a' := ?_) #[true, true, false, false, false, false, false, false, false, false, false, false, false] rfl rfl (any_of HT_.out (by kernel_rfl)) (fun _ _ _ h => h) (Or.inl ⟨by rfl, ?_⟩) ?_ ?_
                    rotate_left
                    ·intro w'
                     go_simp
                     with_reducible rfl
                    rotate_left
                    ·simp only [Act.put, List.setIfInBounds_toArray, List.set_cons_zero, List.set_cons_succ, i64_w, i32_w]
                     rfl
                    refine pure_ (i := 3) (N := some 47) (v := ?_) (a' := ?_) #[true, true, false, true, false, false, false, false, false, false, false, false, false] rfl rfl (any_of HT_.out (by kernel_rfl)) (fun _ _ _ h => h) (Or.inl ⟨by rfl, ?_⟩) ?_ ?_
                    rotate_left
                    ·intro w'
                     go_simp
                     with_reducible rfl
                    rotate_left
                    ·simp only [Act.put, List.setIfInBounds_toArray, List.set_cons_zero, List.set_cons_succ, i64_w, i32_w]
                     rfl
                    refine pure_ (i := 4) (N := some 48) (v := ?_) (a' := ?_) #[true, true, false, true, true, false, false, false, false, false, false, false, false] rfl rfl (any_of HT_.out (by kernel_rfl)) (fun _ _ _ h => h) (Or.inl ⟨by rfl, ?_⟩) ?_ ?_
                    rotate_left
                    ·intro w'
                     go_simp
                     with_reducible rfl
                    rotate_left
                    ·simp only [Act.put, List.setIfInBounds_toArray, List.set_cons_zero, List.set_cons_succ, i64_w, i32_w]
                     rfl
                    refine pure_ (i := 6) (N := some 50) (v := ?_) (a' := ?_) #[true, true, false, true, true, false, true, false, false, false, false, false, false] rfl rfl (any_of HT_.out (by kernel_rfl)) (fun _ _ _ h => h) (Or.inl ⟨by rfl, ?_⟩) ?_ ?_
                    rotate_left
                    ·intro w'
                     go_simp
                     with_reducible rfl
                    rotate_left
                    ·simp only [Act.put, List.setIfInBounds_toArray, List.set_cons_zero, List.set_cons_succ, i64_w, i32_w]
                     rfl
                    refine one_ (i := 2) (N := some 46) #[true, true, true, true, true, false, true, false, false, false, false, false, false] rfl rfl (one_of HT_.out (by kernel_rfl)) (by decide) (fun K hK => ?_)
                    refine goes_ Tryd.func29 (by kernel_rfl) rfl #[.string (a0.extract 8 12), .int .i64 4, .int .i64 4] (by rfl) rfl rfl qa_ ?_
                    with_reducible refine (letterboxref11_digits.calls kj29 (a0.extract 8 12) 4 4 t305 _ A37.out).mono ?_
                    rintro e w' ⟨rfl, ⟨nd, rfl⟩⟩
                    refine ⟨_, rfl, ?_⟩
                    refine hK.out _ _ trivial (fun hHeld => ?_)
                    clear hK K
                    refine norm_ (a' := ?_) ?_ ?_
                    rotate_left
                    ·show Act.put _ (some 46) _ = _
                     simp only [Act.put, List.setIfInBounds_toArray, List.set_cons_zero, List.set_cons_succ, i64_w, i32_w]
                     rfl
                    refine one_ (i := 5) (N := some 49) #[true, true, true, true, true, true, true, false, false, false, false, false, false] rfl rfl (one_of HT_.out (by kernel_rfl)) (by decide) (fun K hK => ?_)
                    refine goes_ Tryd.func33 (by kernel_rfl) rfl #[.string (a0.extract 4 7)] (by rfl) rfl rfl qa_ ?_
                    with_reducible refine (letterboxref11_month.calls kj29 (a0.extract 4 7) t306 _ A40.out).mono ?_
                    rintro e w52 ⟨rfl, hb⟩
                    refine ⟨_, rfl, ?_⟩
                    have n0_ := Aside0.mk (blk_below (g := gb302) (o := .cells #[.int .i64 0, .int .i64 0] 27 (0, 0)) (qk_ BK302.out) hb)
                    have n1_ := Aside0.mk (below_step (qb_ HB.out) hb)
                    clear BK302
                    clear HB
                    have BK302 := n0_
                    have HB := n1_
                    clear n0_ n1_
                    (try clear hb)
                    (try clear hb2)
                    (try clear hk)
                    (try clear hi)
                    refine hK.out _ _ trivial (fun hHeld => ?_)
                    clear hK K
                    refine norm_ (a' := ?_) ?_ ?_
                    rotate_left
                    ·show Act.put _ (some 49) _ = _
                     simp only [Act.put, List.setIfInBounds_toArray, List.set_cons_zero, List.set_cons_succ, i64_w, i32_w]
                     rfl
                    refine one_ (i := 7) (N := some 51) #[true, true, true, true, true, true, true, true, false, false, false, false, false] rfl rfl (one_of HT_.out (by kernel_rfl)) (by decide) (fun K hK => ?_)
                    refine goes_ Tryd.func32 (by kernel_rfl) rfl #[.int .i64 t305, .int .i64 t306, .int .i64 x4_29] (by rfl) rfl rfl qa_ ?_
                    with_reducible refine (letterboxref11_number.calls kj29 t305 t306 x4_29 t307 true _ A41.out).mono ?_
                    rintro e w' ⟨rfl, ⟨nd, rfl⟩⟩
                    refine ⟨_, rfl, ?_⟩
                    refine hK.out _ _ trivial (fun hHeld => ?_)
                    clear hK K
                    refine norm_ (a' := ?_) ?_ ?_
                    rotate_left
                    ·show Act.put _ (some 51) _ = _
                     simp only [Act.put, List.setIfInBounds_toArray, List.set_cons_zero, List.set_cons_succ, i64_w, i32_w]
                     rfl
                    refine pure_ (i := 8) (N := some 43) (v := ?_) (a' := ?_) #[true, true, true, true, true, true, true, true, true, false, false, false, false] rfl rfl (any_of HT_.out (by kernel_rfl)) (fun _ _ _ h => h) (Or.inl ⟨by rfl, ?_⟩) ?_ ?_
                    rotate_left
                    ·intro w'
                     go_simp
                     with_reducible rfl
                    rotate_left
                    ·simp only [Act.put, List.setIfInBounds_toArray, List.set_cons_zero, List.set_cons_succ, i64_w, i32_w]
                     rfl
                    refine pure_ (i := 9) (N := some 52) (v := ?_) (a' := ?_) #[true, true, true, true, true, true, true, true, true, true, false, false, false] rfl rfl (any_of HT_.out (by kernel_rfl)) (fun _ _ _ h => h) (Or.inl ⟨by rfl, ?_⟩) ?_ ?_
                    rotate_left
                    ·intro w'
                     go_simp
                     with_reducible rfl
                    rotate_left
                    ·simp only [Act.put, List.setIfInBounds_toArray, List.set_cons_zero, List.set_cons_succ, i64_w, i32_w]
                     rfl
                    refine pure_ (i := 10) (N := some 53) (v := ?_) (a' := ?_) #[true, true, true, true, true, true, true, true, true, true, true, false, false] rfl rfl (any_of HT_.out (by kernel_rfl)) (fun _ _ _ h => h) (Or.inl ⟨by rfl, ?_⟩) ?_ ?_
                    rotate_left
                    ·intro w'
                     go_simp
                     with_reducible rfl
                    rotate_left
                    ·simp only [Act.put, List.setIfInBounds_toArray, List.set_cons_zero, List.set_cons_succ, i64_w, i32_w]
                     rfl
                    refine pure_ (i := 11) (N := some 5) (v := ?_) (a' := ?_) #[true, true, true, true, true, true, true, true, true, true, true, true, false] rfl rfl (any_of HT_.out (by kernel_rfl)) (fun _ _ _ h => h) (Or.inl ⟨by rfl, ?_⟩) ?_ ?_
                    rotate_left
                    ·intro w'
                     go_simp
                     with_reducible rfl
                    rotate_left
                    ·simp only [Act.put, List.setIfInBounds_toArray, List.set_cons_zero, List.set_cons_succ, i64_w, i32_w]
                     rfl
                    refine pure_ (i := 12) (N := some 6) (v := ?_) (a' := ?_) #[true, true, true, true, true, true, true, true, true, true, true, true, true] rfl rfl (any_of HT_.out (by kernel_rfl)) (fun _ _ _ h => h) (Or.inl ⟨by rfl, ?_⟩) ?_ ?_
                    rotate_left
                    ·intro w'
                     go_simp
                     with_reducible rfl
                    rotate_left
                    ·simp only [Act.put, List.setIfInBounds_toArray, List.set_cons_zero, List.set_cons_succ, i64_w, i32_w]
                     rfl
                    refine done_ (done_of HT_.out (by kernel_rfl)) ?_
                    try go_wp2_with (first | ((with_reducible refine gate_callee (f := 31) rfl ?_); refine goesL_ (some 56) rfl rfl Tryd.func31 (by kernel_rfl) rfl #[.string (a0.extract 13 21), .bool true, .int .i64 59] rfl qa_ ?_; (with_reducible refine (letterboxref11_clock.calls kj29 (a0.extract 13 21) true 59 t309 _ A44.out).mono ?_); rintro e w' ⟨rfl, ⟨nd, rfl⟩⟩; refine ⟨_, rfl, ?_⟩; (try (rw [drewN_self w52]; generalize hq_ : World.drewN w52 _ = w52; have n0_ : Aside0 (w52.heap[gb302]? = some (.cells #[.int .i64 0, .int .i64 0] 27 (0, 0))) := ⟨by rw [← hq_]; exact (qk_ BK302.out)⟩; have n1_ : Aside0 (Below w.heap.size w w52) := ⟨by rw [← hq_]; exact (qb_ HB.out)⟩; clear BK302 HB hq_; have BK302 := n0_; have HB := n1_; clear n0_ n1_))) | ((with_reducible refine gate_callee (f := 35) rfl ?_); refine goesL_ (some 60) rfl rfl Tryd.func35 (by kernel_rfl) rfl #[.string (a0.extract 22 27)] rfl qa_ ?_; (with_reducible refine (letterboxref11_offset.calls kj29 (a0.extract 22 27) t310 true _ A47.out).mono ?_); rintro e w' ⟨rfl, ⟨nd, rfl⟩⟩; refine ⟨_, rfl, ?_⟩; (try (rw [drewN_self w52]; generalize hq_ : World.drewN w52 _ = w52; have n0_ : Aside0 (w52.heap[gb302]? = some (.cells #[.int .i64 0, .int .i64 0] 27 (0, 0))) := ⟨by rw [← hq_]; exact (qk_ BK302.out)⟩; have n1_ : Aside0 (Below w.heap.size w w52) := ⟨by rw [← hq_]; exact (qb_ HB.out)⟩; clear BK302 HB hq_; have BK302 := n0_; have HB := n1_; clear n0_ n1_)); have hcz53_0 : w52.cell? ⟨gb302, 0, none⟩ = some (.int .i64 0) := (blk_cell BK302.out 0).trans rfl; have hcz53_1 : w52.cell? ⟨gb302, 1, none⟩ = some (.int .i64 0) := (blk_cell BK302.out 1).trans rfl; have hfz53_0 := blk_frozen BK302.out 0; have hfz53_1 := blk_frozen BK302.out 1))
                    refine bodyPost_ret (results_ct rfl _ _ gb302 27 #[.int .i64 0, .int .i64 0] (0, 0) _ rfl (qs2_ (qk_ BK302.out)) Tryd.underlying27 rfl (by kernel_rfl)) rfl ?_
                    exact ⟨qw_, qb_ HB.out⟩
                   ·rw [if_neg c50] at H
                    have c50b0 : decide (t309 < 0) = false := decide_eq_false c50
                    clear c50
                    simp only [Option.some.injEq, Prod.mk.injEq] at H
                    obtain ⟨rfl, rfl, rfl⟩ := H
                    try go_wp2
                    have n0_ := Aside0.mk (blk_drew BK302.out)
                    have n1_ := Aside0.mk (below_drew1 HB.out)
                    clear BK302
                    clear HB
                    have BK302 := n0_
                    have HB := n1_
                    clear n0_ n1_
                    refine start_ (n := 13) (S := fun w' => True) (ds := []) #[false, false, false, false, false, false, false, false, false, false, false, false, false] (by kernel_rfl) rfl rfl trivial (fun hHeld => ?_); refine with_tabW letterboxref11_ParseInternal.tab6 letterboxref11_ParseInternal.bits6 (fun HT_ HW_ => ?_)
                    generalize wc.drew = w54 at BK302 HB hHeld ⊢
                    refine pure_ (i := 0) (N := some 44) (v := ?_) (a' := ?_) #[true, false, false, false, false, false, false, false, false, false, false, false, false] rfl rfl (any_of HT_.out (by kernel_rfl)) (fun _ _ _ h => h) (Or.inl ⟨by rfl, ?_⟩) ?_ ?_
                    rotate_left
                    ·intro w'
                     go_simp
                     with_reducible rfl
                    rotate_left
                    ·simp only [Act.put, List.setIfInBounds_toArray, List.set_cons_zero, List.set_cons_succ, i64_w, i32_w]
                     rfl
                    refine pure_ (i := 1) (N := some 45) (v := ?_) (a' := ?_) #[true, true, false, false, false, false, false, false, false, false, false, false, false] rfl rfl (any_of HT_.out (by kernel_rfl)) (fun _ _ _ h => h) (Or.inl ⟨by rfl, ?_⟩) ?_ ?_
                    rotate_left
                    ·intro w'
                     go_simp
                     with_reducible rfl
                    rotate_left
                    ·simp only [Act.put, List.setIfInBounds_toArray, List.set_cons_zero, List.set_cons_succ, i64_w, i32_w]
                     rfl
                    refine pure_ (i := 3) (N := some 47) (v := ?_) (a' := ?_) #[true, true, false, true, false, false, false, false, false, false, false, false, false] rfl rfl (any_of HT_.out (by kernel_rfl)) (fun _ _ _ h => h) (Or.inl ⟨by rfl, ?_⟩) ?_ ?_
                    rotate_left
                    ·intro w'
                     go_simp
                     with_reducible rfl
                    rotate_left
                    ·simp only [Act.put, List.setIfInBounds_toArray, List.set_cons_zero, List.set_cons_succ, i64_w, i32_w]
                     rfl
                    refine pure_ (i := 4) (N := some 48) (v := ?_) (a' := ?_) #[true, true, false, true, true, false, false, false, false, false, false, false, false] rfl rfl (any_of HT_.out (by kernel_rfl)) (fun _ _ _ h => h) (Or.inl ⟨by rfl, ?_⟩) ?_ ?_
                    rotate_left
                    ·intro w'
                     go_simp
                     with_reducible rfl
                    rotate_left
                    ·simp only [Act.put, List.setIfInBounds_toArray, List.set_cons_zero, List.set_cons_succ, i64_w, i32_w]
                     rfl
                    refine pure_ (i := 6) (N := some 50) (v := ?_) (a' := ?_) #[true, true, false, true, true, false, true, false, false, false, false, false, false] rfl rfl (any_of HT_.out (by kernel_rfl)) (fun _ _ _ h => h) (Or.inl ⟨by rfl, ?_⟩) ?_ ?_
                    rotate_left
                    ·intro w'
                     go_simp
                     with_reducible rfl
                    rotate_left
                    ·simp only [Act.put, List.setIfInBounds_toArray, List.set_cons_zero, List.set_cons_succ, i64_w, i32_w]
                     rfl
                    refine one_ (i := 2) (N := some 46) #[true, true, true, true, true, false, true, false, false, false, false, false, false] rfl rfl (one_of HT_.out (by kernel_rfl)) (by decide) (fun K hK => ?_)
                    refine goes_ Tryd.func29 (by kernel_rfl) rfl #[.string (a0.extract 8 12), .int .i64 4, .int .i64 4] (by rfl) rfl rfl qa_ ?_
                    with_reducible refine (letterboxref11_digits.calls kj29 (a0.extract 8 12) 4 4 t305 _ A37.out).mono ?_
                    rintro e w' ⟨rfl, ⟨nd, rfl⟩⟩
                    refine ⟨_, rfl, ?_⟩
                    refine hK.out _ _ trivial (fun hHeld => ?_)
                    clear hK K
                    refine norm_ (a' := ?_) ?_ ?_
                    rotate_left
                    ·show Act.put _ (some 46) _ = _
                     simp only [Act.put, List.setIfInBounds_toArray, List.set_cons_zero, List.set_cons_succ, i64_w, i32_w]
                     rfl
                    refine one_ (i := 5) (N := some 49) #[true, true, true, true, true, true, true, false, false, false, false, false, false] rfl rfl (one_of HT_.out (by kernel_rfl)) (by decide) (fun K hK => ?_)
                    refine goes_ Tryd.func33 (by kernel_rfl) rfl #[.string (a0.extract 4 7)] (by rfl) rfl rfl qa_ ?_
                    with_reducible refine (letterboxref11_month.calls kj29 (a0.extract 4 7) t306 _ A40.out).mono ?_
                    rintro e w55 ⟨rfl, hb⟩
                    refine ⟨_, rfl, ?_⟩
                    have n0_ := Aside0.mk (blk_below (g := gb302) (o := .cells #[.int .i64 0, .int .i64 0] 27 (0, 0)) (qk_ BK302.out) hb)
                    have n1_ := Aside0.mk (below_step (qb_ HB.out) hb)
                    clear BK302
                    clear HB
                    have BK302 := n0_
                    have HB := n1_
                    clear n0_ n1_
                    (try clear hb)
                    (try clear hb2)
                    (try clear hk)
                    (try clear hi)
                    refine hK.out _ _ trivial (fun hHeld => ?_)
                    clear hK K
                    refine norm_ (a' := ?_) ?_ ?_
                    rotate_left
                    ·show Act.put _ (some 49) _ = _
                     simp only [Act.put, List.setIfInBounds_toArray, List.set_cons_zero, List.set_cons_succ, i64_w, i32_w]
                     rfl
                    refine one_ (i := 7) (N := some 51) #[true, true, true, true, true, true, true, true, false, false, false, false, false] rfl rfl (one_of HT_.out (by kernel_rfl)) (by decide) (fun K hK => ?_)
                    refine goes_ Tryd.func32 (by kernel_rfl) rfl #[.int .i64 t305, .int .i64 t306, .int .i64 x4_29] (by rfl) rfl rfl qa_ ?_
                    with_reducible refine (letterboxref11_number.calls kj29 t305 t306 x4_29 t307 true _ A41.out).mono ?_
                    rintro e w' ⟨rfl, ⟨nd, rfl⟩⟩
                    refine ⟨_, rfl, ?_⟩
                    refine hK.out _ _ trivial (fun hHeld => ?_)
                    clear hK K
                    refine norm_ (a' := ?_) ?_ ?_
                    rotate_left
                    ·show Act.put _ (some 51) _ = _
                     simp only [Act.put, List.setIfInBounds_toArray, List.set_cons_zero, List.set_cons_succ, i64_w, i32_w]
                     rfl
                    refine pure_ (i := 8) (N := some 43) (v := ?_) (a' := ?_) #[true, true, true, true, true, true, true, true, true, false, false, false, false] rfl rfl (any_of HT_.out (by kernel_rfl)) (fun _ _ _ h => h) (Or.inl ⟨by rfl, ?_⟩) ?_ ?_
                    rotate_left
                    ·intro w'
                     go_simp
                     with_reducible rfl
                    rotate_left
                    ·simp only [Act.put, List.setIfInBounds_toArray, List.set_cons_zero, List.set_cons_succ, i64_w, i32_w]
                     rfl
                    refine pure_ (i := 9) (N := some 52) (v := ?_) (a' := ?_) #[true, true, true, true, true, true, true, true, true, true, false, false, false] rfl rfl (any_of HT_.out (by kernel_rfl)) (fun _ _ _ h => h) (Or.inl ⟨by rfl, ?_⟩) ?_ ?_
                    rotate_left
                    ·intro w'
                     go_simp
                     with_reducible rfl
                    rotate_left
                    ·simp only [Act.put, List.setIfInBounds_toArray, List.set_cons_zero, List.set_cons_succ, i64_w, i32_w]
                     rfl
                    refine pure_ (i := 10) (N := some 53) (v := ?_) (a' := ?_) #[true, true, true, true, true, true, true, true, true, true, true, false, false] rfl rfl (any_of HT_.out (by kernel_rfl)) (fun _ _ _ h => h) (Or.inl ⟨by rfl, ?_⟩) ?_ ?_
                    rotate_left
                    ·intro w'
                     go_simp
                     with_reducible rfl
                    rotate_left
                    ·simp only [Act.put, List.setIfInBounds_toArray, List.set_cons_zero, List.set_cons_succ, i64_w, i32_w]
                     rfl
                    refine pure_ (i := 11) (N := some 5) (v := ?_) (a' := ?_) #[true, true, true, true, true, true, true, true, true, true, true, true, false] rfl rfl (any_of HT_.out (by kernel_rfl)) (fun _ _ _ h => h) (Or.inl ⟨by rfl, ?_⟩) ?_ ?_
                    rotate_left
                    ·intro w'
                     go_simp
                     with_reducible rfl
                    rotate_left
                    ·simp only [Act.put, List.setIfInBounds_toArray, List.set_cons_zero, List.set_cons_succ, i64_w, i32_w]
                     rfl
                    refine pure_ (i := 12) (N := some 6) (v := ?_) (a' := ?_) #[true, true, true, true, true, true, true, true, true, true, true, true, true] rfl rfl (any_of HT_.out (by kernel_rfl)) (fun _ _ _ h => h) (Or.inl ⟨by rfl, ?_⟩) ?_ ?_
                    rotate_left
                    ·intro w'
                     go_simp
                     with_reducible rfl
                    rotate_left
                    ·simp only [Act.put, List.setIfInBounds_toArray, List.set_cons_zero, List.set_cons_succ, i64_w, i32_w]
                     rfl
                    refine done_ (done_of HT_.out (by kernel_rfl)) ?_
                    try go_wp2_with (first | ((with_reducible refine gate_callee (f := 31) rfl ?_); refine goesL_ (some 56) rfl rfl Tryd.func31 (by kernel_rfl) rfl #[.string (a0.extract 13 21), .bool true, .int .i64 59] rfl qa_ ?_; (with_reducible refine (letterboxref11_clock.calls kj29 (a0.extract 13 21) true 59 t309 _ A44.out).mono ?_); rintro e w' ⟨rfl, ⟨nd, rfl⟩⟩; refine ⟨_, rfl, ?_⟩; (try (rw [drewN_self w55]; generalize hq_ : World.drewN w55 _ = w55; have n0_ : Aside0 (w55.heap[gb302]? = some (.cells #[.int .i64 0, .int .i64 0] 27 (0, 0))) := ⟨by rw [← hq_]; exact (qk_ BK302.out)⟩; have n1_ : Aside0 (Below w.heap.size w w55) := ⟨by rw [← hq_]; exact (qb_ HB.out)⟩; clear BK302 HB hq_; have BK302 := n0_; have HB := n1_; clear n0_ n1_))) | ((with_reducible refine gate_callee (f := 35) rfl ?_); refine goesL_ (some 60) rfl rfl Tryd.func35 (by kernel_rfl) rfl #[.string (a0.extract 22 27)] rfl qa_ ?_; (with_reducible refine (letterboxref11_offset.calls kj29 (a0.extract 22 27) t310 true _ A47.out).mono ?_); rintro e w' ⟨rfl, ⟨nd, rfl⟩⟩; refine ⟨_, rfl, ?_⟩; (try (rw [drewN_self w55]; generalize hq_ : World.drewN w55 _ = w55; have n0_ : Aside0 (w55.heap[gb302]? = some (.cells #[.int .i64 0, .int .i64 0] 27 (0, 0))) := ⟨by rw [← hq_]; exact (qk_ BK302.out)⟩; have n1_ : Aside0 (Below w.heap.size w w55) := ⟨by rw [← hq_]; exact (qb_ HB.out)⟩; clear BK302 HB hq_; have BK302 := n0_; have HB := n1_; clear n0_ n1_)); have hcz56_0 : w55.cell? ⟨gb302, 0, none⟩ = some (.int .i64 0) := (blk_cell BK302.out 0).trans rfl; have hcz56_1 : w55.cell? ⟨gb302, 1, none⟩ = some (.int .i64 0) := (blk_cell BK302.out 1).trans rfl; have hfz56_0 := blk_frozen BK302.out 0; have hfz56_1 := blk_frozen BK302.out 1))
                    refine bodyPost_ret (results_ct rfl _ _ gb302 27 #[.int .i64 (wrap64 ((wrap64 ((wrap64 (86400 * t307)) + t309)) - (wrap64 (60 * t310)))), .int .i64 t310] (0, 0) _ rfl (qs2_ (qk_ BK302.out)) Tryd.underlying27 rfl (by kernel_rfl)) rfl ?_
                    exact ⟨qw_, qb_ HB.out⟩
                  ·replace c49 := Bool.eq_false_iff.mpr c49
                   subst c49
                   have H1 : (some (0, 0, false)) = some (r1, r2, r3) := by rw [if_neg (show ¬ (false = true) by decide)] at H; exact H
                   clear H
                   have H := H1
                   clear H1
                   simp only [Option.some.injEq, Prod.mk.injEq] at H
                   obtain ⟨rfl, rfl, rfl⟩ := H
                   try go_wp2
                   have n0_ := Aside0.mk (blk_drew BK302.out)
                   have n1_ := Aside0.mk (below_drew1 HB.out)
                   clear BK302
                   clear HB
                   have BK302 := n0_
                   have HB := n1_
                   clear n0_ n1_
                   refine start_ (n := 13) (S := fun w' => True) (ds := []) #[false, false, false, false, false, false, false, false, false, false, false, false, false] (by kernel_rfl) rfl rfl trivial (fun hHeld => ?_); refine with_tabW letterboxref11_ParseInternal.tab6 letterboxref11_ParseInternal.bits6 (fun HT_ HW_ => ?_)
                   generalize wc.drew = w57 at BK302 HB hHeld ⊢
                   refine pure_ (i := 0) (N := some 44) (v := ?_) (a' := ?_) #[true, false, false, false, false, false, false, false, false, false, false, false, false] rfl rfl (any_of HT_.out (by kernel_rfl)) (fun _ _ _ h => h) (Or.inl ⟨by rfl, ?_⟩) ?_ ?_
                   rotate_left
                   ·intro w'
                    go_simp
                    with_reducible rfl
                   rotate_left
                   ·simp only [Act.put, List.setIfInBounds_toArray, List.set_cons_zero, List.set_cons_succ, i64_w, i32_w]
                    rfl
                   refine pure_ (i := 1) (N := some 45) (v := ?_) (a' := ?_) #[true, true, false, false, false, false, false, false, false, false, false, false, false] rfl rfl (any_of HT_.out (by kernel_rfl)) (fun _ _ _ h => h) (Or.inl ⟨by rfl, ?_⟩) ?_ ?_
                   rotate_left
                   ·intro w'
                    go_simp
                    with_reducible rfl
                   rotate_left
                   ·simp only [Act.put, List.setIfInBounds_toArray, List.set_cons_zero, List.set_cons_succ, i64_w, i32_w]
                    rfl
                   refine pure_ (i := 3) (N := some 47) (v := ?_) (a' := ?_) #[true, true, false, true, false, false, false, false, false, false, false, false, false] rfl rfl (any_of HT_.out (by kernel_rfl)) (fun _ _ _ h => h) (Or.inl ⟨by rfl, ?_⟩) ?_ ?_
                   rotate_left
                   ·intro w'
                    go_simp
                    with_reducible rfl
                   rotate_left
                   ·simp only [Act.put, List.setIfInBounds_toArray, List.set_cons_zero, List.set_cons_succ, i64_w, i32_w]
                    rfl
                   refine pure_ (i := 4) (N := some 48) (v := ?_) (a' := ?_) #[true, true, false, true, true, false, false, false, false, false, false, false, false] rfl rfl (any_of HT_.out (by kernel_rfl)) (fun _ _ _ h => h) (Or.inl ⟨by rfl, ?_⟩) ?_ ?_
                   rotate_left
                   ·intro w'
                    go_simp
                    with_reducible rfl
                   rotate_left
                   ·simp only [Act.put, List.setIfInBounds_toArray, List.set_cons_zero, List.set_cons_succ, i64_w, i32_w]
                    rfl
                   refine pure_ (i := 6) (N := some 50) (v := ?_) (a' := ?_) #[true, true, false, true, true, false, true, false, false, false, false, false, false] rfl rfl (any_of HT_.out (by kernel_rfl)) (fun _ _ _ h => h) (Or.inl ⟨by rfl, ?_⟩) ?_ ?_
                   rotate_left
                   ·intro w'
                    go_simp
                    with_reducible rfl
                   rotate_left
                   ·simp only [Act.put, List.setIfInBounds_toArray, List.set_cons_zero, List.set_cons_succ, i64_w, i32_w]
                    rfl
                   refine one_ (i := 2) (N := some 46) #[true, true, true, true, true, false, true, false, false, false, false, false, false] rfl rfl (one_of HT_.out (by kernel_rfl)) (by decide) (fun K hK => ?_)
                   refine goes_ Tryd.func29 (by kernel_rfl) rfl #[.string (a0.extract 8 12), .int .i64 4, .int .i64 4] (by rfl) rfl rfl qa_ ?_
                   with_reducible refine (letterboxref11_digits.calls kj29 (a0.extract 8 12) 4 4 t305 _ A37.out).mono ?_
                   rintro e w' ⟨rfl, ⟨nd, rfl⟩⟩
                   refine ⟨_, rfl, ?_⟩
                   refine hK.out _ _ trivial (fun hHeld => ?_)
                   clear hK K
                   refine norm_ (a' := ?_) ?_ ?_
                   rotate_left
                   ·show Act.put _ (some 46) _ = _
                    simp only [Act.put, List.setIfInBounds_toArray, List.set_cons_zero, List.set_cons_succ, i64_w, i32_w]
                    rfl
                   refine one_ (i := 5) (N := some 49) #[true, true, true, true, true, true, true, false, false, false, false, false, false] rfl rfl (one_of HT_.out (by kernel_rfl)) (by decide) (fun K hK => ?_)
                   refine goes_ Tryd.func33 (by kernel_rfl) rfl #[.string (a0.extract 4 7)] (by rfl) rfl rfl qa_ ?_
                   with_reducible refine (letterboxref11_month.calls kj29 (a0.extract 4 7) t306 _ A40.out).mono ?_
                   rintro e w58 ⟨rfl, hb⟩
                   refine ⟨_, rfl, ?_⟩
                   have n0_ := Aside0.mk (blk_below (g := gb302) (o := .cells #[.int .i64 0, .int .i64 0] 27 (0, 0)) (qk_ BK302.out) hb)
                   have n1_ := Aside0.mk (below_step (qb_ HB.out) hb)
                   clear BK302
                   clear HB
                   have BK302 := n0_
                   have HB := n1_
                   clear n0_ n1_
                   (try clear hb)
                   (try clear hb2)
                   (try clear hk)
                   (try clear hi)
                   refine hK.out _ _ trivial (fun hHeld => ?_)
                   clear hK K
                   refine norm_ (a' := ?_) ?_ ?_
                   rotate_left
                   ·show Act.put _ (some 49) _ = _
                    simp only [Act.put, List.setIfInBounds_toArray, List.set_cons_zero, List.set_cons_succ, i64_w, i32_w]
                    rfl
                   refine one_ (i := 7) (N := some 51) #[true, true, true, true, true, true, true, true, false, false, false, false, false] rfl rfl (one_of HT_.out (by kernel_rfl)) (by decide) (fun K hK => ?_)
                   refine goes_ Tryd.func32 (by kernel_rfl) rfl #[.int .i64 t305, .int .i64 t306, .int .i64 x4_29] (by rfl) rfl rfl qa_ ?_
                   with_reducible refine (letterboxref11_number.calls kj29 t305 t306 x4_29 t307 true _ A41.out).mono ?_
                   rintro e w' ⟨rfl, ⟨nd, rfl⟩⟩
                   refine ⟨_, rfl, ?_⟩
                   refine hK.out _ _ trivial (fun hHeld => ?_)
                   clear hK K
                   refine norm_ (a' := ?_) ?_ ?_
                   rotate_left
                   ·show Act.put _ (some 51) _ = _
                    simp only [Act.put, List.setIfInBounds_toArray, List.set_cons_zero, List.set_cons_succ, i64_w, i32_w]
                    rfl
                   refine pure_ (i := 8) (N := some 43) (v := ?_) (a' := ?_) #[true, true, true, true, true, true, true, true, true, false, false, false, false] rfl rfl (any_of HT_.out (by kernel_rfl)) (fun _ _ _ h => h) (Or.inl ⟨by rfl, ?_⟩) ?_ ?_
                   rotate_left
                   ·intro w'
                    go_simp
                    with_reducible rfl
                   rotate_left
                   ·simp only [Act.put, List.setIfInBounds_toArray, List.set_cons_zero, List.set_cons_succ, i64_w, i32_w]
                    rfl
                   refine pure_ (i := 9) (N := some 52) (v := ?_) (a' := ?_) #[true, true, true, true, true, true, true, true, true, true, false, false, false] rfl rfl (any_of HT_.out (by kernel_rfl)) (fun _ _ _ h => h) (Or.inl ⟨by rfl, ?_⟩) ?_ ?_
                   rotate_left
                   ·intro w'
                    go_simp
                    with_reducible rfl
                   rotate_left
                   ·simp only [Act.put, List.setIfInBounds_toArray, List.set_cons_zero, List.set_cons_succ, i64_w, i32_w]
                    rfl
                   refine pure_ (i := 10) (N := some 53) (v := ?_) (a' := ?_) #[true, true, true, true, true, true, true, true, true, true, true, false, false] rfl rfl (any_of HT_.out (by kernel_rfl)) (fun _ _ _ h => h) (Or.inl ⟨by rfl, ?_⟩) ?_ ?_
                   rotate_left
                   ·intro w'
                    go_simp
                    with_reducible rfl
                   rotate_left
                   ·simp only [Act.put, List.setIfInBounds_toArray, List.set_cons_zero, List.set_cons_succ, i64_w, i32_w]
                    rfl
                   refine pure_ (i := 11) (N := some 5) (v := ?_) (a' := ?_) #[true, true, true, true, true, true, true, true, true, true, true, true, false] rfl rfl (any_of HT_.out (by kernel_rfl)) (fun _ _ _ h => h) (Or.inl ⟨by rfl, ?_⟩) ?_ ?_
                   rotate_left
                   ·intro w'
                    go_simp
                    with_reducible rfl
                   rotate_left
                   ·simp only [Act.put, List.setIfInBounds_toArray, List.set_cons_zero, List.set_cons_succ, i64_w, i32_w]
                    rfl
                   refine pure_ (i := 12) (N := some 6) (v := ?_) (a' := ?_) #[true, true, true, true, true, true, true, true, true, true, true, true, true] rfl rfl (any_of HT_.out (by kernel_rfl)) (fun _ _ _ h => h) (Or.inl ⟨by rfl, ?_⟩) ?_ ?_
                   rotate_left
                   ·intro w'
                    go_simp
                    with_reducible rfl
                   rotate_left
                   ·simp only [Act.put, List.setIfInBounds_toArray, List.set_cons_zero, List.set_cons_succ, i64_w, i32_w]
                    rfl
                   refine done_ (done_of HT_.out (by kernel_rfl)) ?_
                   try go_wp2_with (first | ((with_reducible refine gate_callee (f := 31) rfl ?_); refine goesL_ (some 56) rfl rfl Tryd.func31 (by kernel_rfl) rfl #[.string (a0.extract 13 21), .bool true, .int .i64 59] rfl qa_ ?_; (with_reducible refine (letterboxref11_clock.calls kj29 (a0.extract 13 21) true 59 t309 _ A44.out).mono ?_); rintro e w' ⟨rfl, ⟨nd, rfl⟩⟩; refine ⟨_, rfl, ?_⟩; (try (rw [drewN_self w58]; generalize hq_ : World.drewN w58 _ = w58; have n0_ : Aside0 (w58.heap[gb302]? = some (.cells #[.int .i64 0, .int .i64 0] 27 (0, 0))) := ⟨by rw [← hq_]; exact (qk_ BK302.out)⟩; have n1_ : Aside0 (Below w.heap.size w w58) := ⟨by rw [← hq_]; exact (qb_ HB.out)⟩; clear BK302 HB hq_; have BK302 := n0_; have HB := n1_; clear n0_ n1_))) | ((with_reducible refine gate_callee (f := 35) rfl ?_); refine goesL_ (some 60) rfl rfl Tryd.func35 (by kernel_rfl) rfl #[.string (a0.extract 22 27)] rfl qa_ ?_; (with_reducible refine (letterboxref11_offset.calls kj29 (a0.extract 22 27) t310 false _ A47.out).mono ?_); rintro e w' ⟨rfl, ⟨nd, rfl⟩⟩; refine ⟨_, rfl, ?_⟩; (try (rw [drewN_self w58]; generalize hq_ : World.drewN w58 _ = w58; have n0_ : Aside0 (w58.heap[gb302]? = some (.cells #[.int .i64 0, .int .i64 0] 27 (0, 0))) := ⟨by rw [← hq_]; exact (qk_ BK302.out)⟩; have n1_ : Aside0 (Below w.heap.size w w58) := ⟨by rw [← hq_]; exact (qb_ HB.out)⟩; clear BK302 HB hq_; have BK302 := n0_; have HB := n1_; clear n0_ n1_)); have hcz59_0 : w58.cell? ⟨gb302, 0, none⟩ = some (.int .i64 0) := (blk_cell BK302.out 0).trans rfl; have hcz59_1 : w58.cell? ⟨gb302, 1, none⟩ = some (.int .i64 0) := (blk_cell BK302.out 1).trans rfl; have hfz59_0 := blk_frozen BK302.out 0; have hfz59_1 := blk_frozen BK302.out 1))
                   refine bodyPost_ret (results_ct rfl _ _ gb302 27 #[.int .i64 0, .int .i64 0] (0, 0) _ rfl (qs2_ (qk_ BK302.out)) Tryd.underlying27 rfl (by kernel_rfl)) rfl ?_
                   exact ⟨qw_, qb_ HB.out⟩
                 ·replace c48 := Bool.eq_false_iff.mpr c48
                  subst c48
                  have H1 : (some (0, 0, false)) = some (r1, r2, r3) := by rw [if_neg (show ¬ (false = true) by decide)] at H; exact H
                  clear H
                  have H := H1
                  clear H1
                  simp only [Option.some.injEq, Prod.mk.injEq] at H
                  obtain ⟨rfl, rfl, rfl⟩ := H
                  try go_wp2
                  have n0_ := Aside0.mk (blk_drew BK302.out)
                  have n1_ := Aside0.mk (below_drew1 HB.out)
                  clear BK302
                  clear HB
                  have BK302 := n0_
                  have HB := n1_
                  clear n0_ n1_
                  refine start_ (n := 13) (S := fun w' => True) (ds := []) #[false, false, false, false, false, false, false, false, false, false, false, false, false] (by kernel_rfl) rfl rfl trivial (fun hHeld => ?_); refine with_tabW letterboxref11_ParseInternal.tab6 letterboxref11_ParseInternal.bits6 (fun HT_ HW_ => ?_)
                  generalize wc.drew = w60 at BK302 HB hHeld ⊢
                  refine pure_ (i := 0) (N := some 44) (v := ?_) (a' := ?_) #[true, false, false, false, false, false, false, false, false, false, false, false, false] rfl rfl (any_of HT_.out (by kernel_rfl)) (fun _ _ _ h => h) (Or.inl ⟨by rfl, ?_⟩) ?_ ?_
                  rotate_left
                  ·intro w'
                   go_simp
                   with_reducible rfl
                  rotate_left
                  ·simp only [Act.put, List.setIfInBounds_toArray, List.set_cons_zero, List.set_cons_succ, i64_w, i32_w]
                   rfl
                  refine pure_ (i := 1) (N := some 45) (v := ?_) (a' := ?_) #[true, true, false, false, false, false, false, false, false, false, false, false, false] rfl rfl (any_of HT_.out (by kernel_rfl)) (fun _ _ _ h => h) (Or.inl ⟨by rfl, ?_⟩) ?_ ?_
                  rotate_left
                  ·intro w'
                   go_simp
                   with_reducible rfl
                  rotate_left
                  ·simp only [Act.put, List.setIfInBounds_toArray, List.set_cons_zero, List.set_cons_succ, i64_w, i32_w]
                   rfl
                  refine pure_ (i := 3) (N := some 47) (v := ?_) (a' := ?_) #[true, true, false, true, false, false, false, false, false, false, false, false, false] rfl rfl (any_of HT_.out (by kernel_rfl)) (fun _ _ _ h => h) (Or.inl ⟨by rfl, ?_⟩) ?_ ?_
                  rotate_left
                  ·intro w'
                   go_simp
                   with_reducible rfl
                  rotate_left
                  ·simp only [Act.put, List.setIfInBounds_toArray, List.set_cons_zero, List.set_cons_succ, i64_w, i32_w]
                   rfl
                  refine pure_ (i := 4) (N := some 48) (v := ?_) (a' := ?_) #[true, true, false, true, true, false, false, false, false, false, false, false, false] rfl rfl (any_of HT_.out (by kernel_rfl)) (fun _ _ _ h => h) (Or.inl ⟨by rfl, ?_⟩) ?_ ?_
                  rotate_left
                  ·intro w'
                   go_simp
                   with_reducible rfl
                  rotate_left
                  ·simp only [Act.put, List.setIfInBounds_toArray, List.set_cons_zero, List.set_cons_succ, i64_w, i32_w]
                   rfl
                  refine pure_ (i := 6) (N := some 50) (v := ?_) (a' := ?_) #[true, true, false, true, true, false, true, false, false, false, false, false, false] rfl rfl (any_of HT_.out (by kernel_rfl)) (fun _ _ _ h => h) (Or.inl ⟨by rfl, ?_⟩) ?_ ?_
                  rotate_left
                  ·intro w'
                   go_simp
                   with_reducible rfl
                  rotate_left
                  ·simp only [Act.put, List.setIfInBounds_toArray, List.set_cons_zero, List.set_cons_succ, i64_w, i32_w]
                   rfl
                  refine one_ (i := 2) (N := some 46) #[true, true, true, true, true, false, true, false, false, false, false, false, false] rfl rfl (one_of HT_.out (by kernel_rfl)) (by decide) (fun K hK => ?_)
                  refine goes_ Tryd.func29 (by kernel_rfl) rfl #[.string (a0.extract 8 12), .int .i64 4, .int .i64 4] (by rfl) rfl rfl qa_ ?_
                  with_reducible refine (letterboxref11_digits.calls kj29 (a0.extract 8 12) 4 4 t305 _ A37.out).mono ?_
                  rintro e w' ⟨rfl, ⟨nd, rfl⟩⟩
                  refine ⟨_, rfl, ?_⟩
                  refine hK.out _ _ trivial (fun hHeld => ?_)
                  clear hK K
                  refine norm_ (a' := ?_) ?_ ?_
                  rotate_left
                  ·show Act.put _ (some 46) _ = _
                   simp only [Act.put, List.setIfInBounds_toArray, List.set_cons_zero, List.set_cons_succ, i64_w, i32_w]
                   rfl
                  refine one_ (i := 5) (N := some 49) #[true, true, true, true, true, true, true, false, false, false, false, false, false] rfl rfl (one_of HT_.out (by kernel_rfl)) (by decide) (fun K hK => ?_)
                  refine goes_ Tryd.func33 (by kernel_rfl) rfl #[.string (a0.extract 4 7)] (by rfl) rfl rfl qa_ ?_
                  with_reducible refine (letterboxref11_month.calls kj29 (a0.extract 4 7) t306 _ A40.out).mono ?_
                  rintro e w61 ⟨rfl, hb⟩
                  refine ⟨_, rfl, ?_⟩
                  have n0_ := Aside0.mk (blk_below (g := gb302) (o := .cells #[.int .i64 0, .int .i64 0] 27 (0, 0)) (qk_ BK302.out) hb)
                  have n1_ := Aside0.mk (below_step (qb_ HB.out) hb)
                  clear BK302
                  clear HB
                  have BK302 := n0_
                  have HB := n1_
                  clear n0_ n1_
                  (try clear hb)
                  (try clear hb2)
                  (try clear hk)
                  (try clear hi)
                  refine hK.out _ _ trivial (fun hHeld => ?_)
                  clear hK K
                  refine norm_ (a' := ?_) ?_ ?_
                  rotate_left
                  ·show Act.put _ (some 49) _ = _
                   simp only [Act.put, List.setIfInBounds_toArray, List.set_cons_zero, List.set_cons_succ, i64_w, i32_w]
                   rfl
                  refine one_ (i := 7) (N := some 51) #[true, true, true, true, true, true, true, true, false, false, false, false, false] rfl rfl (one_of HT_.out (by kernel_rfl)) (by decide) (fun K hK => ?_)
                  refine goes_ Tryd.func32 (by kernel_rfl) rfl #[.int .i64 t305, .int .i64 t306, .int .i64 x4_29] (by rfl) rfl rfl qa_ ?_
                  with_reducible refine (letterboxref11_number.calls kj29 t305 t306 x4_29 t307 false _ A41.out).mono ?_
                  rintro e w' ⟨rfl, ⟨nd, rfl⟩⟩
                  refine ⟨_, rfl, ?_⟩
                  refine hK.out _ _ trivial (fun hHeld => ?_)
                  clear hK K
                  refine norm_ (a' := ?_) ?_ ?_
                  rotate_left
                  ·show Act.put _ (some 51) _ = _
                   simp only [Act.put, List.setIfInBounds_toArray, List.set_cons_zero, List.set_cons_succ, i64_w, i32_w]
                   rfl
                  refine pure_ (i := 8) (N := some 43) (v := ?_) (a' := ?_) #[true, true, true, true, true, true, true, true, true, false, false, false, false] rfl rfl (any_of HT_.out (by kernel_rfl)) (fun _ _ _ h => h) (Or.inl ⟨by rfl, ?_⟩) ?_ ?_
                  rotate_left
                  ·intro w'
                   go_simp
                   with_reducible rfl
                  rotate_left
                  ·simp only [Act.put, List.setIfInBounds_toArray, List.set_cons_zero, List.set_cons_succ, i64_w, i32_w]
                   rfl
                  refine pure_ (i := 9) (N := some 52) (v := ?_) (a' := ?_) #[true, true, true, true, true, true, true, true, true, true, false, false, false] rfl rfl (any_of HT_.out (by kernel_rfl)) (fun _ _ _ h => h) (Or.inl ⟨by rfl, ?_⟩) ?_ ?_
                  rotate_left
                  ·intro w'
                   go_simp
                   with_reducible rfl
                  rotate_left
                  ·simp only [Act.put, List.setIfInBounds_toArray, List.set_cons_zero, List.set_cons_succ, i64_w, i32_w]
                   rfl
                  refine pure_ (i := 10) (N := some 53) (v := ?_) (a' := ?_) #[true, true, true, true, true, true, true, true, true, true, true, false, false] rfl rfl (any_of HT_.out (by kernel_rfl)) (fun _ _ _ h => h) (Or.inl ⟨by rfl, ?_⟩) ?_ ?_
                  rotate_left
                  ·intro w'
                   go_simp
                   with_reducible rfl
                  rotate_left
                  ·simp only [Act.put, List.setIfInBounds_toArray, List.set_cons_zero, List.set_cons_succ, i64_w, i32_w]
                   rfl
                  refine pure_ (i := 11) (N := some 5) (v := ?_) (a' := ?_) #[true, true, true, true, true, true, true, true, true, true, true, true, false] rfl rfl (any_of HT_.out (by kernel_rfl)) (fun _ _ _ h => h) (Or.inl ⟨by rfl, ?_⟩) ?_ ?_
                  rotate_left
                  ·intro w'
                   go_simp
                   with_reducible rfl
                  rotate_left
                  ·simp only [Act.put, List.setIfInBounds_toArray, List.set_cons_zero, List.set_cons_succ, i64_w, i32_w]
                   rfl
                  refine pure_ (i := 12) (N := some 6) (v := ?_) (a' := ?_) #[true, true, true, true, true, true, true, true, true, true, true, true, true] rfl rfl (any_of HT_.out (by kernel_rfl)) (fun _ _ _ h => h) (Or.inl ⟨by rfl, ?_⟩) ?_ ?_
                  rotate_left
                  ·intro w'
                   go_simp
                   with_reducible rfl
                  rotate_left
                  ·simp only [Act.put, List.setIfInBounds_toArray, List.set_cons_zero, List.set_cons_succ, i64_w, i32_w]
                   rfl
                  refine done_ (done_of HT_.out (by kernel_rfl)) ?_
                  try go_wp2_with (first | ((with_reducible refine gate_callee (f := 31) rfl ?_); refine goesL_ (some 56) rfl rfl Tryd.func31 (by kernel_rfl) rfl #[.string (a0.extract 13 21), .bool true, .int .i64 59] rfl qa_ ?_; (with_reducible refine (letterboxref11_clock.calls kj29 (a0.extract 13 21) true 59 t309 _ A44.out).mono ?_); rintro e w' ⟨rfl, ⟨nd, rfl⟩⟩; refine ⟨_, rfl, ?_⟩; (try (rw [drewN_self w61]; generalize hq_ : World.drewN w61 _ = w61; have n0_ : Aside0 (w61.heap[gb302]? = some (.cells #[.int .i64 0, .int .i64 0] 27 (0, 0))) := ⟨by rw [← hq_]; exact (qk_ BK302.out)⟩; have n1_ : Aside0 (Below w.heap.size w w61) := ⟨by rw [← hq_]; exact (qb_ HB.out)⟩; clear BK302 HB hq_; have BK302 := n0_; have HB := n1_; clear n0_ n1_))) | ((with_reducible refine gate_callee (f := 35) rfl ?_); refine goesL_ (some 60) rfl rfl Tryd.func35 (by kernel_rfl) rfl #[.string (a0.extract 22 27)] rfl qa_ ?_; (with_reducible refine (letterboxref11_offset.calls kj29 (a0.extract 22 27) t310 t311 _ A47.out).mono ?_); rintro e w' ⟨rfl, ⟨nd, rfl⟩⟩; refine ⟨_, rfl, ?_⟩; (try (rw [drewN_self w61]; generalize hq_ : World.drewN w61 _ = w61; have n0_ : Aside0 (w61.heap[gb302]? = some (.cells #[.int .i64 0, .int .i64 0] 27 (0, 0))) := ⟨by rw [← hq_]; exact (qk_ BK302.out)⟩; have n1_ : Aside0 (Below w.heap.size w w61) := ⟨by rw [← hq_]; exact (qb_ HB.out)⟩; clear BK302 HB hq_; have BK302 := n0_; have HB := n1_; clear n0_ n1_)); have hcz62_0 : w61.cell? ⟨gb302, 0, none⟩ = some (.int .i64 0) := (blk_cell BK302.out 0).trans rfl; have hcz62_1 : w61.cell? ⟨gb302, 1, none⟩ = some (.int .i64 0) := (blk_cell BK302.out 1).trans rfl; have hfz62_0 := blk_frozen BK302.out 0; have hfz62_1 := blk_frozen BK302.out 1))
                  refine bodyPost_ret (results_ct rfl _ _ gb302 27 #[.int .i64 0, .int .i64 0] (0, 0) _ rfl (qs2_ (qk_ BK302.out)) Tryd.underlying27 rfl (by kernel_rfl)) rfl ?_
                  exact ⟨qw_, qb_ HB.out⟩
                ·rw [if_neg c46] at H
                 exact absurd H (by simp)
               ·rw [if_neg c45] at H
                exact absurd H (by simp)
              ·rw [if_neg c43] at H
               exact absurd H (by simp)
             ·rw [if_neg c42] at H
              exact absurd H (by simp)
            ·rw [if_neg c39] at H
             exact absurd H (by simp)
           ·rw [if_neg c38] at H
            exact absurd H (by simp)
          ·rw [if_neg c36] at H
           exact absurd H (by simp)
         ·rw [if_neg c35] at H
          exact absurd H (by simp)
      ·rw [if_neg c28] at H
       exact absurd H (by simp)
     ·rw [if_neg c26] at H
      exact absurd H (by simp)
    ·rw [if_neg c25] at H
     exact absurd H (by simp)

end Go.Proofs.YtmbiggcapakjjaaDoor.P
