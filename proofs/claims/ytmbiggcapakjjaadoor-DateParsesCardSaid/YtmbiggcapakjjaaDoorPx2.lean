-- Written by a program of this session (wip/tools/mk.sh) for this claim: it runs the kit's print with contracts of our own. Lean checks it.
import Derived.Test.YtmbiggcapakjjaaDoorPx0
import Derived.Test.YtmbiggcapakjjaaDoorWRepsOne
import Derived.Test.YtmbiggcapakjjaaDoorWTab
import Derived.Test.YtmbiggcapakjjaaDoorZSplit
namespace Go.Proofs.YtmbiggcapakjjaaDoor.P
open Go.RowKit Go.Proofs.YtmbiggcapakjjaaDoorW.PrintWords Go.Proofs.YtmbiggcapakjjaaDoorW.PrintLast Go.Proofs.YtmbiggcapakjjaaDoorW.PrintMore
attribute [-simp] Int.tmod_tmod_of_dvd
attribute [local go_sem] max2_int min2_int max_two min_two max_three min_three max_four min_four   -- for this text's walks alone
set_option linter.unusedVariables false
set_option linter.unusedSimpArgs false

/-! ### date_digits: function 25 -/
mutual
def date_digits.l0 : Nat → ByteArray → List Int → Int → Int → Int → Option (Int)
 | 0, _, _, _, _, _ => none
 | k + 1, x0, x1, x5, x10, x11 => if x11 < x10 then (if 0 ≤ x11 then (if x11 < (x0.size : Int) then (if (bt x0 x11) < 48 then (some (-1)) else (if (bt x0 x11) > 57 then (some (-1)) else (date_digits.l0 k x0 x1 (wrap64 ((wrap64 (10 * x5)) + (((bt x0 x11) - 48) % 256))) x10 (wrap64 (x11 + 1))))) else (none)) else (none)) else (date_digits.l1 k x0 x5 x1 (x1.length : Int) 0)
def date_digits.l1 : Nat → ByteArray → Int → List Int → Int → Int → Option (Int)
 | 0, _, _, _, _, _ => none
 | k + 1, x0, x5, x33, x34, x35 => if x35 < x34 then (if 0 ≤ x35 then (if x35 < (x33.length : Int) then (if (x0.size : Int) = (rd x33 x35) then (some x5) else (date_digits.l1 k x0 x5 x33 x34 (wrap64 (x35 + 1)))) else (none)) else (none)) else (some (-1))
end
def date_digits.f (k : Nat) (a0 : ByteArray) (l1 : List Int) : Option (Int) := date_digits.l0 k a0 l1 0 (a0.size : Int) 0
theorem date_digits.mono_l : ∀ k, (∀ y0 y1 y2 y3 y4, LeO (date_digits.l0 k y0 y1 y2 y3 y4) (date_digits.l0 (k + 1) y0 y1 y2 y3 y4)) ∧ (∀ y0 y1 y2 y3 y4, LeO (date_digits.l1 k y0 y1 y2 y3 y4) (date_digits.l1 (k + 1) y0 y1 y2 y3 y4))
 | 0 => ⟨fun _ _ _ _ _ r h => by simp [date_digits.l0] at h, fun _ _ _ _ _ r h => by simp [date_digits.l1] at h⟩
 | k + 1 => by
  obtain ⟨ih0, ih1⟩ := date_digits.mono_l k
  refine ⟨?_, ?_⟩
  ·intro y0 y1 y2 y3 y4
   unfold date_digits.l0
   repeat' first
   | (with_reducible exact ih0 _ _ _ _ _)
   | (with_reducible exact ih1 _ _ _ _ _)
   | (with_reducible exact LeO.refl _)
   | (with_reducible exact LeO.none _)
   | (with_reducible refine LeO.ite ?_ ?_)
   | (with_reducible refine LeO.bind ?_ (fun _ => ?_))
   | exact ih0 _ _ _ _ _
   | exact ih1 _ _ _ _ _
   | exact LeO.none _
   | refine LeO.ite ?_ ?_
   | refine LeO.bind ?_ (fun _ => ?_)
  ·intro y0 y1 y2 y3 y4
   unfold date_digits.l1
   repeat' first
   | (with_reducible exact ih0 _ _ _ _ _)
   | (with_reducible exact ih1 _ _ _ _ _)
   | (with_reducible exact LeO.refl _)
   | (with_reducible exact LeO.none _)
   | (with_reducible refine LeO.ite ?_ ?_)
   | (with_reducible refine LeO.bind ?_ (fun _ => ?_))
   | exact ih0 _ _ _ _ _
   | exact ih1 _ _ _ _ _
   | exact LeO.none _
   | refine LeO.ite ?_ ?_
   | refine LeO.bind ?_ (fun _ => ?_)
theorem date_digits.mono : ∀ a0 a1 k, LeO (date_digits.f k a0 a1) (date_digits.f (k + 1) a0 a1) := by
 intro a0 a1 k
 obtain ⟨ih0, ih1⟩ := date_digits.mono_l k
 unfold date_digits.f
 repeat' first
   | (with_reducible exact ih0 _ _ _ _ _)
   | (with_reducible exact ih1 _ _ _ _ _)
   | (with_reducible exact LeO.refl _)
   | (with_reducible exact LeO.none _)
   | (with_reducible refine LeO.ite ?_ ?_)
   | (with_reducible refine LeO.bind ?_ (fun _ => ?_))
   | exact ih0 _ _ _ _ _
   | exact ih1 _ _ _ _ _
   | exact LeO.none _
   | refine LeO.ite ?_ ?_
   | refine LeO.bind ?_ (fun _ => ?_)
set_option maxHeartbeats 8000000 in
set_option maxRecDepth 100000 in
theorem date_digits.calls (k : Nat) (a0 : ByteArray) (A1 : Option Addr) (c1 : Nat) (l1 : List Int) (r : Int) (w : World) (hr1 : Kd.C (Kd.int .i64) w A1 l1.length l1) (hc1 : l1.length ≤ c1) (h : date_digits.f k a0 l1 = some r) :
  Calls Tryd.prog 25 #[.string a0, .slice A1 l1.length c1] w fun e w' => e = .returned (.int .i64 r) ∧ Drawn0 w w' := by
 have HR1 := Aside0.mk hr1
 have HC1 := Aside0.mk hc1
 clear hr1 hc1
 have H : (date_digits.l0 k a0 l1 0 (a0.size : Int) 0) = some r := h
 clear h
 have H' := Aside0.mk H
 clear H
 go_enter Tryd.func25, Tryd.ntmps25
 go_wp2
 go_loopg [5, 11] k (fun kq v5 v11 w' => ∃ (x5_1 : Int) (x11_1 : Int), v5 = .int .i64 x5_1 ∧ v11 = .int .i64 x11_1 ∧ Aside0 (date_digits.l0 kq a0 l1 x5_1 (a0.size : Int) x11_1 = some r) ∧ Aside0 (kq ≤ k) ∧ Drawn0 w w')
 case atStart => exact ⟨(0), (0), qr_, qr_, H', ⟨Nat.le_refl _⟩, by repeat (first | exact Drawn0.refl _ | apply Drawn0.step)⟩
 case round =>
  clear H'
  obtain ⟨x5_1, x11_1, rfl, rfl, HA, HK1, ⟨m1, rfl⟩⟩ := hrel
  cases gk with
  | zero => exact absurd HA.out (by simp [date_digits.l0])
  | succ k1 =>
   have H := HA.out
   clear HA
   simp only [date_digits.l0] at H
   by_cases c3 : x11_1 < (a0.size : Int)
   ·rw [if_pos c3] at H
    have c3b0 : decide (x11_1 < (a0.size : Int)) = true := decide_eq_true c3
    clear c3
    by_cases c4 : 0 ≤ x11_1
    ·rw [if_pos c4] at H
     have c4b0 : decide (0 ≤ x11_1) = true := decide_eq_true c4
     clear c4
     by_cases c5 : x11_1 < (a0.size : Int)
     ·rw [if_pos c5] at H
      have c5b0 : decide (x11_1 < (a0.size : Int)) = true := decide_eq_true c5
      clear c5
      by_cases c7 : (bt a0 x11_1) < 48
      ·rw [if_pos c7] at H
       have c7b0 : decide ((bt a0 x11_1) < 48) = true := decide_eq_true c7
       clear c7
       obtain rfl := Option.some.inj H
       have p6 : 0 ≤ (x11_1 : Int) := qd_
       have q6 : x11_1 < (a0.size : Int) := qd_
       have hx6 := bt_at a0 x11_1
       replace p6 := eq_true p6
       replace q6 := eq_true q6
       go_wp2
       go_ret
       exact ⟨by first | rfl | (simp; done) | (simp [*]; done), by repeat (first | exact Drawn0.refl _ | apply Drawn0.step)⟩
      ·rw [if_neg c7] at H
       have c7b0 : decide ((bt a0 x11_1) < 48) = false := decide_eq_false c7
       clear c7
       by_cases c9 : (bt a0 x11_1) > 57
       ·rw [if_pos c9] at H
        have c9b0 : decide (57 < (bt a0 x11_1)) = true := decide_eq_true c9
        clear c9
        obtain rfl := Option.some.inj H
        have p6 : 0 ≤ (x11_1 : Int) := qd_
        have q6 : x11_1 < (a0.size : Int) := qd_
        have hx6 := bt_at a0 x11_1
        replace p6 := eq_true p6
        replace q6 := eq_true q6
        have p8 : 0 ≤ (x11_1 : Int) := qd_
        have q8 : x11_1 < (a0.size : Int) := qd_
        have hx8 := bt_at a0 x11_1
        replace p8 := eq_true p8
        replace q8 := eq_true q8
        go_wp2
        go_ret
        exact ⟨by first | rfl | (simp; done) | (simp [*]; done), by repeat (first | exact Drawn0.refl _ | apply Drawn0.step)⟩
       ·rw [if_neg c9] at H
        have c9b0 : decide (57 < (bt a0 x11_1)) = false := decide_eq_false c9
        clear c9
        have H' := Aside0.mk H
        clear H
        have p6 : 0 ≤ (x11_1 : Int) := qd_
        have q6 : x11_1 < (a0.size : Int) := qd_
        have hx6 := bt_at a0 x11_1
        replace p6 := eq_true p6
        replace q6 := eq_true q6
        have p8 : 0 ≤ (x11_1 : Int) := qd_
        have q8 : x11_1 < (a0.size : Int) := qd_
        have hx8 := bt_at a0 x11_1
        replace p8 := eq_true p8
        replace q8 := eq_true q8
        have p10 : 0 ≤ (x11_1 : Int) := qd_
        have q10 : x11_1 < (a0.size : Int) := qd_
        have hx10 := bt_at a0 x11_1
        replace p10 := eq_true p10
        replace q10 := eq_true q10
        go_wp2
        go_roundg k1
        case measure => have := HK1.out; omega
        case rel => exact ⟨(wrap64 ((wrap64 (10 * x5_1)) + (((bt a0 x11_1) - 48) % 256))), (wrap64 (x11_1 + 1)), qr_, qr_, H', ⟨by have := HK1.out; omega⟩, by repeat (first | exact Drawn0.refl _ | apply Drawn0.step)⟩
     ·rw [if_neg c5] at H
      exact absurd H (by simp)
    ·rw [if_neg c4] at H
     exact absurd H (by simp)
   ·rw [if_neg c3] at H
    have c3b0 : decide (x11_1 < (a0.size : Int)) = false := decide_eq_false c3
    clear c3
    have H' := Aside0.mk H
    clear H
    go_wp2
    go_loopg [35] k1 (fun kq v35 w' => ∃ (x35_2 : Int), v35 = .int .i64 x35_2 ∧ Aside0 (date_digits.l1 kq a0 x5_1 l1 (l1.length : Int) x35_2 = some r) ∧ Aside0 (kq ≤ k1) ∧ Drawn0 w w')
    case atStart => exact ⟨(0), qr_, H', ⟨Nat.le_refl _⟩, by repeat (first | exact Drawn0.refl _ | apply Drawn0.step)⟩
    case round =>
     clear H'
     obtain ⟨x35_2, rfl, HA, HK2, ⟨m2, rfl⟩⟩ := hrel
     cases gk with
     | zero => exact absurd HA.out (by simp [date_digits.l1])
     | succ k2 =>
      have H := HA.out
      clear HA
      simp only [date_digits.l1] at H
      by_cases c11 : x35_2 < (l1.length : Int)
      ·rw [if_pos c11] at H
       have c11b0 : decide (x35_2 < (l1.length : Int)) = true := decide_eq_true c11
       clear c11
       by_cases c12 : 0 ≤ x35_2
       ·rw [if_pos c12] at H
        have c12b0 : decide (0 ≤ x35_2) = true := decide_eq_true c12
        clear c12
        by_cases c13 : x35_2 < (l1.length : Int)
        ·rw [if_pos c13] at H
         have c13b0 : decide (x35_2 < (l1.length : Int)) = true := decide_eq_true c13
         clear c13
         by_cases c14 : (a0.size : Int) = (rd l1 x35_2)
         ·rw [if_pos c14] at H
          have c14b0 : ((a0.size : Int) == (rd l1 x35_2)) = true := beq_iff_eq.mpr c14
          have c14b1 : ((a0.size : Int) != (rd l1 x35_2)) = false := bne_eq_false_iff_eq.mpr c14
          clear c14
          obtain rfl := Option.some.inj H
          have p113 : 0 ≤ (x35_2 : Int) := qd_
          have q113 : x35_2 < (l1.length : Int) := qd_
          obtain ⟨ad113, e113, hx113_0⟩ := Kd.at_int HR1.out x35_2 p113 q113
          cases e113
          replace p113 := eq_true p113
          replace q113 := eq_true q113
          go_wp2
          go_ret
          exact ⟨by first | rfl | (simp; done) | (simp [*]; done), by repeat (first | exact Drawn0.refl _ | apply Drawn0.step)⟩
         ·rw [if_neg c14] at H
          have c14b0 : ((a0.size : Int) == (rd l1 x35_2)) = false := beq_eq_false_iff_ne.mpr c14
          have c14b1 : ((a0.size : Int) != (rd l1 x35_2)) = true := bne_iff_ne.mpr c14
          have H' := Aside0.mk H
          clear H
          have p113 : 0 ≤ (x35_2 : Int) := qd_
          have q113 : x35_2 < (l1.length : Int) := qd_
          obtain ⟨ad113, e113, hx113_0⟩ := Kd.at_int HR1.out x35_2 p113 q113
          cases e113
          replace p113 := eq_true p113
          replace q113 := eq_true q113
          go_wp2
          go_roundg k2
          case measure => have := HK1.out; have := HK2.out; omega
          case rel => exact ⟨(wrap64 (x35_2 + 1)), qr_, H', ⟨by have := HK1.out; have := HK2.out; omega⟩, by repeat (first | exact Drawn0.refl _ | apply Drawn0.step)⟩
        ·rw [if_neg c13] at H
         exact absurd H (by simp)
       ·rw [if_neg c12] at H
        exact absurd H (by simp)
      ·rw [if_neg c11] at H
       have c11b0 : decide (x35_2 < (l1.length : Int)) = false := decide_eq_false c11
       clear c11
       obtain rfl := Option.some.inj H
       go_wp2
       go_ret
       exact ⟨by first | rfl | (simp; done) | (simp [*]; done), by repeat (first | exact Drawn0.refl _ | apply Drawn0.step)⟩

/-! ### date_offset: function 34 -/
mutual
def date_offset.j0 : Nat → ByteArray → Bool → Option (Int × Bool)
 | 0, _, _ => none
 | k + 1, x0, x18 => if x18 = true then (some (0, false)) else (if 1 ≤ 3 then (if 3 ≤ (x0.size : Int) then ((date_digits.f k (x0.extract 1 3) (([2] : List Int))).bind fun t117 => ((date_digits.f k (x0.extract 3 x0.size) (([2] : List Int))).bind fun t121 => (if t117 < 0 then (date_offset.j1 k x0 t117 t121 true) else (if t117 > 23 then (date_offset.j1 k x0 t117 t121 true) else (if t121 < 0 then (date_offset.j1 k x0 t117 t121 true) else (date_offset.j1 k x0 t117 t121 (decide (t121 > 59)))))))) else (none)) else (none))
def date_offset.j1 : Nat → ByteArray → Int → Int → Bool → Option (Int × Bool)
 | 0, _, _, _, _ => none
 | k + 1, x0, x4, x5, x40 => if x40 = true then (some (0, false)) else (if 0 < (x0.size : Int) then (if (bt x0 0) = 45 then (some (wrap64 ((wrap64 ((-60) * x4)) - x5), true)) else (some (wrap64 ((wrap64 (60 * x4)) + x5), true))) else (none))
end
def date_offset.f (k : Nat) (a0 : ByteArray) : Option (Int × Bool) := if (a0.size : Int) = 5 then (if 0 < (a0.size : Int) then (if (bt a0 0) = 43 then (date_offset.j0 k a0 false) else (date_offset.j0 k a0 ((bt a0 0) != 45))) else (none)) else (date_offset.j0 k a0 true)
theorem date_offset.mono_l : ∀ k, (∀ y0 y1, LeO (date_offset.j0 k y0 y1) (date_offset.j0 (k + 1) y0 y1)) ∧ (∀ y0 y1 y2 y3, LeO (date_offset.j1 k y0 y1 y2 y3) (date_offset.j1 (k + 1) y0 y1 y2 y3))
 | 0 => ⟨fun _ _ r h => by simp [date_offset.j0] at h, fun _ _ _ _ r h => by simp [date_offset.j1] at h⟩
 | k + 1 => by
  obtain ⟨ih0, ih1⟩ := date_offset.mono_l k
  refine ⟨?_, ?_⟩
  ·intro y0 y1
   unfold date_offset.j0
   repeat' first
   | (with_reducible exact ih0 _ _)
   | (with_reducible exact ih1 _ _ _ _)
   | (with_reducible exact date_digits.mono _ _ _)
   | (with_reducible exact LeO.refl _)
   | (with_reducible exact LeO.none _)
   | (with_reducible refine LeO.ite ?_ ?_)
   | (with_reducible refine LeO.bind ?_ (fun _ => ?_))
   | exact ih0 _ _
   | exact ih1 _ _ _ _
   | exact date_digits.mono _ _ _
   | exact LeO.none _
   | refine LeO.ite ?_ ?_
   | refine LeO.bind ?_ (fun _ => ?_)
  ·intro y0 y1 y2 y3
   unfold date_offset.j1
   repeat' first
   | (with_reducible exact ih0 _ _)
   | (with_reducible exact ih1 _ _ _ _)
   | (with_reducible exact date_digits.mono _ _ _)
   | (with_reducible exact LeO.refl _)
   | (with_reducible exact LeO.none _)
   | (with_reducible refine LeO.ite ?_ ?_)
   | (with_reducible refine LeO.bind ?_ (fun _ => ?_))
   | exact ih0 _ _
   | exact ih1 _ _ _ _
   | exact date_digits.mono _ _ _
   | exact LeO.none _
   | refine LeO.ite ?_ ?_
   | refine LeO.bind ?_ (fun _ => ?_)
theorem date_offset.mono : ∀ a0 k, LeO (date_offset.f k a0) (date_offset.f (k + 1) a0) := by
 intro a0 k
 obtain ⟨ih0, ih1⟩ := date_offset.mono_l k
 unfold date_offset.f
 repeat' first
   | (with_reducible exact ih0 _ _)
   | (with_reducible exact ih1 _ _ _ _)
   | (with_reducible exact date_digits.mono _ _ _)
   | (with_reducible exact LeO.refl _)
   | (with_reducible exact LeO.none _)
   | (with_reducible refine LeO.ite ?_ ?_)
   | (with_reducible refine LeO.bind ?_ (fun _ => ?_))
   | exact ih0 _ _
   | exact ih1 _ _ _ _
   | exact date_digits.mono _ _ _
   | exact LeO.none _
   | refine LeO.ite ?_ ?_
   | refine LeO.bind ?_ (fun _ => ?_)
def date_offset.T3 : Bool × List (List Nat × List Nat) := (true, [([], []), ([0], [0]), ([], []), ([1, 2], [1, 2]), ([], []), ([4], [4]), ([], []), ([5, 6, 3], [5, 6]), ([3, 7, 0, 1, 2, 3], [3]), ([7, 8, 0, 1, 2, 3, 4, 5, 6, 7, 8], [7])])
def date_offset.B3 : List Nat := [0, 1, 0, 7, 0, 16, 0, 127, 255, 511]
theorem date_offset.tab3 : rtab .any (opsOf Tryd.f34 3) = date_offset.T3 := by kernel_rfl
theorem date_offset.bits3 : waitsOk date_offset.T3.2 date_offset.B3 = true := by kernel_rfl
set_option maxHeartbeats 8000000 in
set_option maxRecDepth 100000 in
theorem date_offset.calls (k : Nat) (a0 : ByteArray) (r1 : Int) (r2 : Bool) (w : World) (h : date_offset.f k a0 = some (r1, r2)) :
  Calls Tryd.prog 34 #[.string a0] w fun e w' => e = .returned (.tuple #[.int .i64 r1, .bool r2]) ∧ Below w.heap.size w w' := by
 have hw8_ : ∀ x_ : Int, IntKind.u8.wrap x_ = x_ % 256 := IntKind.wrap_u8
 have HB := Aside0.mk (Below.refl w.heap.size w)
 have H : (if (a0.size : Int) = 5 then (if 0 < (a0.size : Int) then (if (bt a0 0) = 43 then (date_offset.j0 k a0 false) else (date_offset.j0 k a0 ((bt a0 0) != 45))) else (none)) else (date_offset.j0 k a0 true)) = some (r1, r2) := h
 clear h
 have HC2 := Aside0.mk H
 clear H
 go_enter Tryd.func34, Tryd.ntmps34
 go_upto_region 1 with (fail)
 go_cut [18] (fun v18 wc => ∃ (kq : Nat) (x18_1 : Bool), v18 = .bool x18_1 ∧ Aside0 (date_offset.j0 kq a0 x18_1 = some (r1, r2)) ∧ Aside0 (kq ≤ k) ∧ Aside0 (Below w.heap.size w wc))
 case first =>
  have H := HC2.out
  clear HC2
  by_cases c3 : (a0.size : Int) = 5
  ·rw [if_pos c3] at H
   have c3b0 : ((a0.size : Int) == 5) = true := beq_iff_eq.mpr c3
   have c3b1 : ((a0.size : Int) != 5) = false := bne_eq_false_iff_eq.mpr c3
   clear c3
   (first | rw [c3b0] | (simp only [i64_w, i32_w]; rw [c3b0]) | skip)
   by_cases c4 : 0 < (a0.size : Int)
   ·rw [if_pos c4] at H
    have c4b0 : decide (0 < (a0.size : Int)) = true := decide_eq_true c4
    have c4b1 : decide (0 < a0.size) = true := decide_eq_true (by omega)
    clear c4
    by_cases c6 : (bt a0 0) = 43
    ·rw [if_pos c6] at H
     have c6b0 : ((bt a0 0) == 43) = true := beq_iff_eq.mpr c6
     have c6b1 : ((bt a0 0) != 43) = false := bne_eq_false_iff_eq.mpr c6
     clear c6
     have H' := Aside0.mk H
     clear H
     have p5 : 0 ≤ (0 : Int) := (by omega)
     have q5 : 0 < a0.size := (by have : (0 : Int) < (a0.size : Int) := qd_; omega)
     have hx5 : ∀ h : 0 < a0.size, ((a0[0]'h).toNat : Int) = bt a0 0 := bt_at a0 0
     clear p5
     have qi5 : (0 < (a0.size : Int)) = True := eq_true (qd_)
     replace q5 := eq_true q5
     go_wp2
     go_meet
     case rel => exact ⟨_, (false), qr_, H', ⟨by first | omega | exact Nat.le_refl _⟩, ⟨qb_ HB.out⟩⟩
    ·rw [if_neg c6] at H
     have c6b0 : ((bt a0 0) == 43) = false := beq_eq_false_iff_ne.mpr c6
     have c6b1 : ((bt a0 0) != 43) = true := bne_iff_ne.mpr c6
     have H' := Aside0.mk H
     clear H
     have p5 : 0 ≤ (0 : Int) := (by omega)
     have q5 : 0 < a0.size := (by have : (0 : Int) < (a0.size : Int) := qd_; omega)
     have hx5 : ∀ h : 0 < a0.size, ((a0[0]'h).toNat : Int) = bt a0 0 := bt_at a0 0
     clear p5
     have qi5 : (0 < (a0.size : Int)) = True := eq_true (qd_)
     replace q5 := eq_true q5
     have p7 : 0 ≤ (0 : Int) := (by omega)
     have q7 : 0 < a0.size := (by have : (0 : Int) < (a0.size : Int) := qd_; omega)
     have hx7 : ∀ h : 0 < a0.size, ((a0[0]'h).toNat : Int) = bt a0 0 := bt_at a0 0
     clear p7
     have qi7 : (0 < (a0.size : Int)) = True := eq_true (qd_)
     replace q7 := eq_true q7
     go_wp2
     go_meet
     case rel => exact ⟨_, (((bt a0 0) != 45)), qr_, H', ⟨by first | omega | exact Nat.le_refl _⟩, ⟨qb_ HB.out⟩⟩
   ·rw [if_neg c4] at H
    exact absurd H (by simp)
  ·rw [if_neg c3] at H
   have c3b0 : ((a0.size : Int) == 5) = false := beq_eq_false_iff_ne.mpr c3
   have c3b1 : ((a0.size : Int) != 5) = true := bne_iff_ne.mpr c3
   (first | rw [c3b0] | (simp only [i64_w, i32_w]; rw [c3b0]) | skip)
   have H' := Aside0.mk H
   clear H
   go_wp2
   go_meet
   case rel => exact ⟨_, (true), qr_, H', ⟨by first | omega | exact Nat.le_refl _⟩, ⟨qb_ HB.out⟩⟩
 case rest =>
  clear HC2
  obtain ⟨kq, x18_1, rfl, HA, HJ1, HB⟩ := hcut
  cases kq with
  | zero => exact absurd HA.out (by simp [date_offset.j0])
  | succ kj1 =>
   have H := HA.out
   clear HA
   simp only [date_offset.j0] at H
   by_cases c8 : x18_1 = true
   ·subst c8
    have H1 : (some (0, false)) = some (r1, r2) := by rw [if_pos rfl] at H; exact H
    clear H
    have H := H1
    clear H1
    simp only [Option.some.injEq, Prod.mk.injEq] at H
    obtain ⟨rfl, rfl⟩ := H
    go_wp2
    go_ret2
    exact ⟨qw_, qb_ HB.out⟩
   ·replace c8 := Bool.eq_false_iff.mpr c8
    subst c8
    have H1 : (if 1 ≤ 3 then (if 3 ≤ (a0.size : Int) then ((date_digits.f kj1 (a0.extract 1 3) (([2] : List Int))).bind fun t117 => ((date_digits.f kj1 (a0.extract 3 a0.size) (([2] : List Int))).bind fun t121 => (if t117 < 0 then (date_offset.j1 kj1 a0 t117 t121 true) else (if t117 > 23 then (date_offset.j1 kj1 a0 t117 t121 true) else (if t121 < 0 then (date_offset.j1 kj1 a0 t117 t121 true) else (date_offset.j1 kj1 a0 t117 t121 (decide (t121 > 59)))))))) else (none)) else (none)) = some (r1, r2) := by rw [if_neg (show ¬ (false = true) by decide)] at H; exact H
    clear H
    have H := H1
    clear H1
    by_cases c9 : 1 ≤ 3
    ·rw [if_pos c9] at H
     have c9b0 := eq_true c9
     have c9b1 : decide (1 ≤ 3) = true := decide_eq_true c9
     clear c9
     by_cases c10 : 3 ≤ (a0.size : Int)
     ·rw [if_pos c10] at H
      have c10b0 := eq_true c10
      have c10b1 : decide (3 ≤ (a0.size : Int)) = true := decide_eq_true c10
      clear c10
      obtain ⟨y114, hy114⟩ : ∃ y_ : List Int, y_ = (([2] : List Int)) := ⟨_, rfl⟩
      replace H : ((date_digits.f kj1 (a0.extract 1 3) y114).bind fun t117 => ((date_digits.f kj1 (a0.extract 3 a0.size) (([2] : List Int))).bind fun t121 => (if t117 < 0 then (date_offset.j1 kj1 a0 t117 t121 true) else (if t117 > 23 then (date_offset.j1 kj1 a0 t117 t121 true) else (if t121 < 0 then (date_offset.j1 kj1 a0 t117 t121 true) else (date_offset.j1 kj1 a0 t117 t121 (decide (t121 > 59)))))))) = some (r1, r2) := by first | (rw [hy114]; with_reducible exact H) | (have H2_ := (Option.bind_some _ _).symm.trans H; rw [hy114]; with_reducible exact H2_) | (have H2_ := (Option.bind_some _ _).symm.trans H; with_reducible exact H2_) | with_reducible exact H | (rw [hy114]; exact H) | exact H
      have Ny114 := Aside0.mk hy114
      clear hy114
      replace H := Option.bind_eq_some_iff.mp H
      obtain ⟨t117, A110, H⟩ := H
      replace H : ((date_digits.f kj1 (a0.extract 3 a0.size) (([2] : List Int))).bind fun t121 => (if t117 < 0 then (date_offset.j1 kj1 a0 t117 t121 true) else (if t117 > 23 then (date_offset.j1 kj1 a0 t117 t121 true) else (if t121 < 0 then (date_offset.j1 kj1 a0 t117 t121 true) else (date_offset.j1 kj1 a0 t117 t121 (decide (t121 > 59))))))) = some (r1, r2) := H
      have A11 := Aside0.mk A110
      clear A110
      have c12b0 := eq_true (qd_ : 3 ≤ (a0.size : Int))
      obtain ⟨y118, hy118⟩ : ∃ y_ : List Int, y_ = (([2] : List Int)) := ⟨_, rfl⟩
      replace H : ((date_digits.f kj1 (a0.extract 3 a0.size) y118).bind fun t121 => (if t117 < 0 then (date_offset.j1 kj1 a0 t117 t121 true) else (if t117 > 23 then (date_offset.j1 kj1 a0 t117 t121 true) else (if t121 < 0 then (date_offset.j1 kj1 a0 t117 t121 true) else (date_offset.j1 kj1 a0 t117 t121 (decide (t121 > 59))))))) = some (r1, r2) := by first | (rw [hy118]; with_reducible exact H) | (have H2_ := (Option.bind_some _ _).symm.trans H; rw [hy118]; with_reducible exact H2_) | (have H2_ := (Option.bind_some _ _).symm.trans H; with_reducible exact H2_) | with_reducible exact H | (rw [hy118]; exact H) | exact H
      have Ny118 := Aside0.mk hy118
      clear hy118
      replace H := Option.bind_eq_some_iff.mp H
      obtain ⟨t121, A130, H⟩ := H
      replace H : (if t117 < 0 then (date_offset.j1 kj1 a0 t117 t121 true) else (if t117 > 23 then (date_offset.j1 kj1 a0 t117 t121 true) else (if t121 < 0 then (date_offset.j1 kj1 a0 t117 t121 true) else (date_offset.j1 kj1 a0 t117 t121 (decide (t121 > 59)))))) = some (r1, r2) := H
      have A13 := Aside0.mk A130
      clear A130
      have HC14 := Aside0.mk H
      clear H
      try go_wp2
      have n0_ := Aside0.mk (below_drew1 HB.out)
      clear HB
      have HB := n0_
      clear n0_
      refine start_ (n := 10) (S := fun w' => True) (ds := []) #[false, false, false, false, false, false, false, false, false, false] (by kernel_rfl) rfl rfl trivial (fun hHeld => ?_); refine with_tabW date_offset.tab3 date_offset.bits3 (fun HT_ HW_ => ?_)
      generalize wc.drew = w15 at HB hHeld ⊢
      refine pure_ (i := 0) (N := some 19) (v := ?_) (a' := ?_) #[true, false, false, false, false, false, false, false, false, false] rfl rfl (any_of HT_.out (by kernel_rfl)) (fun _ _ _ h => h) (Or.inl ⟨by rfl, ?_⟩) ?_ ?_
      rotate_left
      ·intro w'
       go_simp
       with_reducible rfl
      rotate_left
      ·simp only [Act.put, List.setIfInBounds_toArray, List.set_cons_zero, List.set_cons_succ, i64_w, i32_w]
       rfl
      refine pure_ (i := 1) (N := some 20) (v := ?_) (a' := ?_) #[true, true, false, false, false, false, false, false, false, false] rfl rfl (any_of HT_.out (by kernel_rfl)) (fun _ _ _ h => h) (Or.inl ⟨by rfl, ?_⟩) ?_ ?_
      rotate_left
      ·intro w'
       go_simp
       with_reducible rfl
      rotate_left
      ·simp only [Act.put, List.setIfInBounds_toArray, List.set_cons_zero, List.set_cons_succ, i64_w, i32_w]
       rfl
      refine pure_ (i := 4) (N := some 23) (v := ?_) (a' := ?_) #[true, true, false, false, true, false, false, false, false, false] rfl rfl (any_of HT_.out (by kernel_rfl)) (fun _ _ _ h => h) (Or.inl ⟨by rfl, ?_⟩) ?_ ?_
      rotate_left
      ·intro w'
       go_simp
       with_reducible rfl
      rotate_left
      ·simp only [Act.put, List.setIfInBounds_toArray, List.set_cons_zero, List.set_cons_succ, i64_w, i32_w]
       rfl
      refine pure_ (i := 5) (N := some 24) (v := ?_) (a' := ?_) #[true, true, false, false, true, true, false, false, false, false] rfl rfl (any_of HT_.out (by kernel_rfl)) (fun _ _ _ h => h) (Or.inl ⟨by rfl, ?_⟩) ?_ ?_
      rotate_left
      ·intro w'
       go_simp
       with_reducible rfl
      rotate_left
      ·simp only [Act.put, List.setIfInBounds_toArray, List.set_cons_zero, List.set_cons_succ, i64_w, i32_w]
       rfl
      refine join_ (σ := Value × Value) 3 #[true, true, true, true, true, true, true, false, false, false] (fun s_ => [(21, s_.1), (22, .int .i64 t117), (25, s_.2)]) (fun s_ w' => (Kd.R (Kd.int .i64) 3 w' w.heap.size (fun k_ => some k_ ≠ (s_.2 : Value).ownBlock) s_.1 y114) ∧ (Kd.R (Kd.int .i64) 3 w' w.heap.size (fun k_ => some k_ ≠ (s_.1 : Value).ownBlock) s_.2 y118) ∧ (Below w.heap.size w w')) ?_ ?_
      rotate_left
      ·intro hCont
       refine two_ (i := 2) (j := 6) (Ni := some 21) (Nj := some 25) #[true, true, true, false, true, true, false, false, false, false] #[true, true, false, false, true, true, true, false, false, false] rfl rfl rfl rfl (two_of HT_.out (by kernel_rfl)) (by decide) (by decide) (fun K hK => ?_) (fun K hK => ?_)
       ·skip
        refine Kd.R_lit_step (Kd.int .i64) _ 3 ?hg (N := 21) ?hd (xs := ([2] : List Int)) (inner := [.int .i64 2]) (ok := fun _ => True) (okp := fun _ => True) ?hr ?hp (fun _ hk => hk) trivial (Below.refl _ _) (Nat.le_refl _) (by simp) ?_; (case hd => rfl); (case hg => rfl); (case hr => first | (go_simp; done) | (go_simp; rfl)); (case hp => exact (Reps.one (show Kd.M (Kd.int .i64) _ _ _ 2 [.int .i64 2] from rfl) (Reps.none _ _)))
        intro v115 w16 ho17 hb hg_ hnew_
        clear hg_ hnew_
        (first | rw [← Ny114.out] at ho17 | (simp only [Int.reduceToNat] at ho17; rw [← Ny114.out] at ho17))
        have n0_ := Aside0.mk (Kd.R_lower ho17 (below_size (qb_ HB.out)))
        have n1_ := Aside0.mk (below_step (qb_ HB.out) hb)
        clear HB
        have HO116 := n0_
        have HB := n1_
        clear n0_ n1_
        clear hb ho17
        obtain ⟨Ao18, co18, eo18⟩ := Kd.R_slice HO116.out
        (first | subst eo18 | (injection eo18 with f1_ f2_ f3_; have f4_ := f1_.symm; have f5_ := f3_.symm; clear f1_ f2_ f3_; subst f4_; subst f5_))
        refine hK.out _ _ trivial (fun hHeld => ?_)
        clear hK K
        refine norm_ (a' := ?_) ?_ ?_
        rotate_left
        ·show Act.put _ (some 21) _ = _
         simp only [Act.put, List.setIfInBounds_toArray, List.set_cons_zero, List.set_cons_succ, i64_w, i32_w]
         rfl
        refine two_ (i := 3) (j := 6) (Ni := some 22) (Nj := some 25) #[true, true, true, true, true, true, false, false, false, false] #[true, true, true, false, true, true, true, false, false, false] rfl rfl rfl rfl (two_of HT_.out (by kernel_rfl)) (by decide) (by decide) (fun K hK => ?_) (fun K hK => ?_)
        ·skip
         refine goes_ Tryd.func25 (by kernel_rfl) rfl #[.string (a0.extract 1 3), .slice Ao18 y114.length co18] (by rfl) rfl rfl qa_ ?_
         with_reducible refine (date_digits.calls kj1 (a0.extract 1 3) _ _ y114 t117 _ ?side1 ?side2 A11.out).mono ?_
         (case side1 => repeat (first | exact (Kd.R_reads' HO116.out).2.2 | (with_reducible refine Kd.C_alloc ?_ _) | (with_reducible refine Kd.C_drewN ?_ _) | (with_reducible refine Kd.C_drew ?_)))
         (case side2 => exact (Kd.R_reads' HO116.out).2.1)
         rintro e w' ⟨rfl, ⟨nd, rfl⟩⟩
         refine ⟨_, rfl, ?_⟩
         refine hK.out _ _ trivial (fun hHeld => ?_)
         clear hK K
         refine norm_ (a' := ?_) ?_ ?_
         rotate_left
         ·show Act.put _ (some 22) _ = _
          simp only [Act.put, List.setIfInBounds_toArray, List.set_cons_zero, List.set_cons_succ, i64_w, i32_w]
          rfl
         refine one_ (i := 6) (N := some 25) #[true, true, true, true, true, true, true, false, false, false] rfl rfl (one_of HT_.out (by kernel_rfl)) (by decide) (fun K hK => ?_)
         refine Kd.R_lit_step (Kd.int .i64) _ 3 ?hg (N := 25) ?hd (xs := ([2] : List Int)) (inner := [.int .i64 2]) (ok := fun _ => True) (okp := fun _ => True) ?hr ?hp (fun _ hk => hk) trivial (Below.refl _ _) (Nat.le_refl _) (by simp) ?_; (case hd => rfl); (case hg => rfl); (case hr => first | (go_simp; done) | (go_simp; rfl)); (case hp => exact (Reps.one (show Kd.M (Kd.int .i64) _ _ _ 2 [.int .i64 2] from rfl) (Reps.none _ _)))
         intro v119 w19 ho20 hb hg_ hnew_
         clear hg_ hnew_
         (first | rw [← Ny118.out] at ho20 | (simp only [Int.reduceToNat] at ho20; rw [← Ny118.out] at ho20))
         have n0_ := Aside0.mk (Kd.R_elder' (ql_ HO116.out) (Kd.R_base ho20) hb)
         have n1_ := Aside0.mk (Kd.R_lower (Kd.R_new' ho20 (Kd.R_lt (ql_ HO116.out))) (below_size (qb_ HB.out)))
         have n2_ := Aside0.mk (below_step (qb_ HB.out) hb)
         clear HO116
         clear HB
         have HO116 := n0_
         have HO120 := n1_
         have HB := n2_
         clear n0_ n1_ n2_
         clear hb ho20
         refine hK.out _ _ trivial (fun hHeld => ?_)
         clear hK K
         refine norm_ (a' := ?_) ?_ ?_
         rotate_left
         ·show Act.put _ (some 25) _ = _
          simp only [Act.put, List.setIfInBounds_toArray, List.set_cons_zero, List.set_cons_succ, i64_w, i32_w]
          rfl
         exact norm_ (by simp only [putAll, Act.put, List.setIfInBounds_toArray, List.set_cons_zero, List.set_cons_succ]) (hCont (.slice Ao18 y114.length co18, v119) _ ⟨(by (with_reducible repeat (first | apply Kd.R_alloc | apply Kd.R_drewN | apply Kd.R_drew)); exact Kd.R_mono HO116.out (fun _ hk => hk.2)), (by (with_reducible repeat (first | apply Kd.R_alloc | apply Kd.R_drewN | apply Kd.R_drew)); exact Kd.R_mono HO120.out (fun _ hk => hk.2)), (qb_ HB.out)⟩)
        ·skip
         refine Kd.R_lit_step (Kd.int .i64) _ 3 ?hg (N := 25) ?hd (xs := ([2] : List Int)) (inner := [.int .i64 2]) (ok := fun _ => True) (okp := fun _ => True) ?hr ?hp (fun _ hk => hk) trivial (Below.refl _ _) (Nat.le_refl _) (by simp) ?_; (case hd => rfl); (case hg => rfl); (case hr => first | (go_simp; done) | (go_simp; rfl)); (case hp => exact (Reps.one (show Kd.M (Kd.int .i64) _ _ _ 2 [.int .i64 2] from rfl) (Reps.none _ _)))
         intro v119 w18 ho19 hb hg_ hnew_
         clear hg_ hnew_
         (first | rw [← Ny118.out] at ho19 | (simp only [Int.reduceToNat] at ho19; rw [← Ny118.out] at ho19))
         have n0_ := Aside0.mk (Kd.R_elder' (ql_ HO116.out) (Kd.R_base ho19) hb)
         have n1_ := Aside0.mk (Kd.R_lower (Kd.R_new' ho19 (Kd.R_lt (ql_ HO116.out))) (below_size (qb_ HB.out)))
         have n2_ := Aside0.mk (below_step (qb_ HB.out) hb)
         clear HO116
         clear HB
         have HO116 := n0_
         have HO120 := n1_
         have HB := n2_
         clear n0_ n1_ n2_
         clear hb ho19
         obtain ⟨Ao20, co20, eo20⟩ := Kd.R_slice HO116.out
         (first | subst eo20 | (injection eo20 with f1_ f2_ f3_; have f4_ := f1_.symm; have f5_ := f3_.symm; clear f1_ f2_ f3_; subst f4_; subst f5_))
         refine hK.out _ _ trivial (fun hHeld => ?_)
         clear hK K
         refine norm_ (a' := ?_) ?_ ?_
         rotate_left
         ·show Act.put _ (some 25) _ = _
          simp only [Act.put, List.setIfInBounds_toArray, List.set_cons_zero, List.set_cons_succ, i64_w, i32_w]
          rfl
         refine one_ (i := 3) (N := some 22) #[true, true, true, true, true, true, true, false, false, false] rfl rfl (one_of HT_.out (by kernel_rfl)) (by decide) (fun K hK => ?_)
         refine goes_ Tryd.func25 (by kernel_rfl) rfl #[.string (a0.extract 1 3), .slice Ao20 y114.length co20] (by rfl) rfl rfl qa_ ?_
         with_reducible refine (date_digits.calls kj1 (a0.extract 1 3) _ _ y114 t117 _ ?side1 ?side2 A11.out).mono ?_
         (case side1 => repeat (first | exact (Kd.R_reads' HO116.out).2.2 | (with_reducible refine Kd.C_alloc ?_ _) | (with_reducible refine Kd.C_drewN ?_ _) | (with_reducible refine Kd.C_drew ?_)))
         (case side2 => exact (Kd.R_reads' HO116.out).2.1)
         rintro e w' ⟨rfl, ⟨nd, rfl⟩⟩
         refine ⟨_, rfl, ?_⟩
         refine hK.out _ _ trivial (fun hHeld => ?_)
         clear hK K
         refine norm_ (a' := ?_) ?_ ?_
         rotate_left
         ·show Act.put _ (some 22) _ = _
          simp only [Act.put, List.setIfInBounds_toArray, List.set_cons_zero, List.set_cons_succ, i64_w, i32_w]
          rfl
         exact norm_ (by simp only [putAll, Act.put, List.setIfInBounds_toArray, List.set_cons_zero, List.set_cons_succ]) (hCont (.slice Ao20 y114.length co20, v119) _ ⟨(by (with_reducible repeat (first | apply Kd.R_alloc | apply Kd.R_drewN | apply Kd.R_drew)); exact Kd.R_mono HO116.out (fun _ hk => hk.2)), (by (with_reducible repeat (first | apply Kd.R_alloc | apply Kd.R_drewN | apply Kd.R_drew)); exact Kd.R_mono HO120.out (fun _ hk => hk.2)), (qb_ HB.out)⟩)
       ·skip
        refine Kd.R_lit_step (Kd.int .i64) _ 3 ?hg (N := 25) ?hd (xs := ([2] : List Int)) (inner := [.int .i64 2]) (ok := fun _ => True) (okp := fun _ => True) ?hr ?hp (fun _ hk => hk) trivial (Below.refl _ _) (Nat.le_refl _) (by simp) ?_; (case hd => rfl); (case hg => rfl); (case hr => first | (go_simp; done) | (go_simp; rfl)); (case hp => exact (Reps.one (show Kd.M (Kd.int .i64) _ _ _ 2 [.int .i64 2] from rfl) (Reps.none _ _)))
        intro v119 w16 ho17 hb hg_ hnew_
        clear hg_ hnew_
        (first | rw [← Ny118.out] at ho17 | (simp only [Int.reduceToNat] at ho17; rw [← Ny118.out] at ho17))
        have n0_ := Aside0.mk (Kd.R_lower ho17 (below_size (qb_ HB.out)))
        have n1_ := Aside0.mk (below_step (qb_ HB.out) hb)
        clear HB
        have HO120 := n0_
        have HB := n1_
        clear n0_ n1_
        clear hb ho17
        refine hK.out _ _ trivial (fun hHeld => ?_)
        clear hK K
        refine norm_ (a' := ?_) ?_ ?_
        rotate_left
        ·show Act.put _ (some 25) _ = _
         simp only [Act.put, List.setIfInBounds_toArray, List.set_cons_zero, List.set_cons_succ, i64_w, i32_w]
         rfl
        refine one_ (i := 2) (N := some 21) #[true, true, true, false, true, true, true, false, false, false] rfl rfl (one_of HT_.out (by kernel_rfl)) (by decide) (fun K hK => ?_)
        refine Kd.R_lit_step (Kd.int .i64) _ 3 ?hg (N := 21) ?hd (xs := ([2] : List Int)) (inner := [.int .i64 2]) (ok := fun _ => True) (okp := fun _ => True) ?hr ?hp (fun _ hk => hk) trivial (Below.refl _ _) (Nat.le_refl _) (by simp) ?_; (case hd => rfl); (case hg => rfl); (case hr => first | (go_simp; done) | (go_simp; rfl)); (case hp => exact (Reps.one (show Kd.M (Kd.int .i64) _ _ _ 2 [.int .i64 2] from rfl) (Reps.none _ _)))
        intro v115 w18 ho19 hb hg_ hnew_
        clear hg_ hnew_
        (first | rw [← Ny114.out] at ho19 | (simp only [Int.reduceToNat] at ho19; rw [← Ny114.out] at ho19))
        have n0_ := Aside0.mk (Kd.R_elder' (ql_ HO120.out) (Kd.R_base ho19) hb)
        have n1_ := Aside0.mk (Kd.R_lower (Kd.R_new' ho19 (Kd.R_lt (ql_ HO120.out))) (below_size (qb_ HB.out)))
        have n2_ := Aside0.mk (below_step (qb_ HB.out) hb)
        clear HO120
        clear HB
        have HO120 := n0_
        have HO116 := n1_
        have HB := n2_
        clear n0_ n1_ n2_
        clear hb ho19
        obtain ⟨Ao20, co20, eo20⟩ := Kd.R_slice HO116.out
        (first | subst eo20 | (injection eo20 with f1_ f2_ f3_; have f4_ := f1_.symm; have f5_ := f3_.symm; clear f1_ f2_ f3_; subst f4_; subst f5_))
        refine hK.out _ _ trivial (fun hHeld => ?_)
        clear hK K
        refine norm_ (a' := ?_) ?_ ?_
        rotate_left
        ·show Act.put _ (some 21) _ = _
         simp only [Act.put, List.setIfInBounds_toArray, List.set_cons_zero, List.set_cons_succ, i64_w, i32_w]
         rfl
        refine one_ (i := 3) (N := some 22) #[true, true, true, true, true, true, true, false, false, false] rfl rfl (one_of HT_.out (by kernel_rfl)) (by decide) (fun K hK => ?_)
        refine goes_ Tryd.func25 (by kernel_rfl) rfl #[.string (a0.extract 1 3), .slice Ao20 y114.length co20] (by rfl) rfl rfl qa_ ?_
        with_reducible refine (date_digits.calls kj1 (a0.extract 1 3) _ _ y114 t117 _ ?side1 ?side2 A11.out).mono ?_
        (case side1 => repeat (first | exact (Kd.R_reads' HO116.out).2.2 | (with_reducible refine Kd.C_alloc ?_ _) | (with_reducible refine Kd.C_drewN ?_ _) | (with_reducible refine Kd.C_drew ?_)))
        (case side2 => exact (Kd.R_reads' HO116.out).2.1)
        rintro e w' ⟨rfl, ⟨nd, rfl⟩⟩
        refine ⟨_, rfl, ?_⟩
        refine hK.out _ _ trivial (fun hHeld => ?_)
        clear hK K
        refine norm_ (a' := ?_) ?_ ?_
        rotate_left
        ·show Act.put _ (some 22) _ = _
         simp only [Act.put, List.setIfInBounds_toArray, List.set_cons_zero, List.set_cons_succ, i64_w, i32_w]
         rfl
        exact norm_ (by simp only [putAll, Act.put, List.setIfInBounds_toArray, List.set_cons_zero, List.set_cons_succ]) (hCont (.slice Ao20 y114.length co20, v119) _ ⟨(by (with_reducible repeat (first | apply Kd.R_alloc | apply Kd.R_drewN | apply Kd.R_drew)); exact Kd.R_mono HO116.out (fun _ hk => hk.2)), (by (with_reducible repeat (first | apply Kd.R_alloc | apply Kd.R_drewN | apply Kd.R_drew)); exact Kd.R_mono HO120.out (fun _ hk => hk.2)), (qb_ HB.out)⟩)
      rintro ⟨v115, v119⟩ w21 ⟨h0_, h1_, h2_⟩
      have n0_ : Aside0 (Kd.R (Kd.int .i64) 3 w21 w.heap.size (fun k_ => some k_ ≠ (v119 : Value).ownBlock) v115 y114) := ⟨h0_⟩
      have n1_ : Aside0 (Kd.R (Kd.int .i64) 3 w21 w.heap.size (fun k_ => some k_ ≠ (v115 : Value).ownBlock) v119 y118) := ⟨h1_⟩
      have n2_ : Aside0 (Below w.heap.size w w21) := ⟨h2_⟩
      clear HB
      clear h0_ h1_ h2_
      have HO116 := n0_
      have HO120 := n1_
      have HB := n2_
      clear n0_ n1_ n2_
      have hHeld := trivial
      obtain ⟨Ao22, co22, eo22⟩ := Kd.R_slice HO120.out
      (first | subst eo22 | (injection eo22 with f1_ f2_ f3_; have f4_ := f1_.symm; have f5_ := f3_.symm; clear f1_ f2_ f3_; subst f4_; subst f5_))
      refine norm_ (a' := ?_) ?_ ?_
      rotate_left
      ·simp only [putAll, Act.put, List.setIfInBounds_toArray, List.set_cons_zero, List.set_cons_succ]
       rfl
      refine one_ (i := 7) (N := some 26) #[true, true, true, true, true, true, true, true, false, false] rfl rfl (one_of HT_.out (by kernel_rfl)) (by decide) (fun K hK => ?_)
      refine goes_ Tryd.func25 (by kernel_rfl) rfl #[.string (a0.extract 3 a0.size), .slice Ao22 y118.length co22] (by rfl) rfl rfl qa_ ?_
      with_reducible refine (date_digits.calls kj1 (a0.extract 3 a0.size) _ _ y118 t121 _ ?side1 ?side2 A13.out).mono ?_
      (case side1 => repeat (first | exact (Kd.R_reads' HO120.out).2.2 | (with_reducible refine Kd.C_alloc ?_ _) | (with_reducible refine Kd.C_drewN ?_ _) | (with_reducible refine Kd.C_drew ?_)))
      (case side2 => exact (Kd.R_reads' HO120.out).2.1)
      rintro e w' ⟨rfl, ⟨nd, rfl⟩⟩
      refine ⟨_, rfl, ?_⟩
      refine hK.out _ _ trivial (fun hHeld => ?_)
      clear hK K
      refine norm_ (a' := ?_) ?_ ?_
      rotate_left
      ·show Act.put _ (some 26) _ = _
       simp only [Act.put, List.setIfInBounds_toArray, List.set_cons_zero, List.set_cons_succ, i64_w, i32_w]
       rfl
      refine pure_ (i := 8) (N := some 4) (v := ?_) (a' := ?_) #[true, true, true, true, true, true, true, true, true, false] rfl rfl (any_of HT_.out (by kernel_rfl)) (fun _ _ _ h => h) (Or.inl ⟨by rfl, ?_⟩) ?_ ?_
      rotate_left
      ·intro w'
       go_simp
       with_reducible rfl
      rotate_left
      ·simp only [Act.put, List.setIfInBounds_toArray, List.set_cons_zero, List.set_cons_succ, i64_w, i32_w]
       rfl
      refine pure_ (i := 9) (N := some 5) (v := ?_) (a' := ?_) #[true, true, true, true, true, true, true, true, true, true] rfl rfl (any_of HT_.out (by kernel_rfl)) (fun _ _ _ h => h) (Or.inl ⟨by rfl, ?_⟩) ?_ ?_
      rotate_left
      ·intro w'
       go_simp
       with_reducible rfl
      rotate_left
      ·simp only [Act.put, List.setIfInBounds_toArray, List.set_cons_zero, List.set_cons_succ, i64_w, i32_w]
       rfl
      refine done_ (done_of HT_.out (by kernel_rfl)) ?_
      go_upto_region 4 with (fail)
      go_cut [40] (fun v40 wc => ∃ (kq : Nat) (x40_13 : Bool), v40 = .bool x40_13 ∧ Aside0 (date_offset.j1 kq a0 t117 t121 x40_13 = some (r1, r2)) ∧ Aside0 (kq ≤ kj1) ∧ Aside0 (Below w.heap.size w wc))
      case first =>
       have H := HC14.out
       clear HC14
       by_cases c23 : t117 < 0
       ·rw [if_pos c23] at H
        have c23b0 : decide (t117 < 0) = true := decide_eq_true c23
        clear c23
        (first | rw [c23b0] | (simp only [i64_w, i32_w]; rw [c23b0]) | skip)
        have H' := Aside0.mk H
        clear H
        go_wp2
        go_meet
        case rel => exact ⟨_, (true), qr_, H', ⟨by have := HJ1.out; first | omega | exact Nat.le_refl _⟩, ⟨qb_ HB.out⟩⟩
       ·rw [if_neg c23] at H
        have c23b0 : decide (t117 < 0) = false := decide_eq_false c23
        clear c23
        (first | rw [c23b0] | (simp only [i64_w, i32_w]; rw [c23b0]) | skip)
        by_cases c24 : t117 > 23
        ·rw [if_pos c24] at H
         have c24b0 : decide (23 < t117) = true := decide_eq_true c24
         clear c24
         have H' := Aside0.mk H
         clear H
         go_wp2
         go_meet
         case rel => exact ⟨_, (true), qr_, H', ⟨by have := HJ1.out; first | omega | exact Nat.le_refl _⟩, ⟨qb_ HB.out⟩⟩
        ·rw [if_neg c24] at H
         have c24b0 : decide (23 < t117) = false := decide_eq_false c24
         clear c24
         by_cases c25 : t121 < 0
         ·rw [if_pos c25] at H
          have c25b0 : decide (t121 < 0) = true := decide_eq_true c25
          clear c25
          have H' := Aside0.mk H
          clear H
          go_wp2
          go_meet
          case rel => exact ⟨_, (true), qr_, H', ⟨by have := HJ1.out; first | omega | exact Nat.le_refl _⟩, ⟨qb_ HB.out⟩⟩
         ·rw [if_neg c25] at H
          have c25b0 : decide (t121 < 0) = false := decide_eq_false c25
          clear c25
          have H' := Aside0.mk H
          clear H
          go_wp2
          go_meet
          case rel => exact ⟨_, (decide (t121 > 59)), qr_, H', ⟨by have := HJ1.out; first | omega | exact Nat.le_refl _⟩, ⟨qb_ HB.out⟩⟩
      case rest =>
       clear HC14
       (try clear c8 c9b0 c9b1)
       obtain ⟨kq, x40_13, rfl, HA, HJ13, HB⟩ := hcut
       cases kq with
       | zero => exact absurd HA.out (by simp [date_offset.j1])
       | succ kj13 =>
        have H := HA.out
        clear HA
        simp only [date_offset.j1] at H
        by_cases c26 : x40_13 = true
        ·subst c26
         have H1 : (some (0, false)) = some (r1, r2) := by rw [if_pos rfl] at H; exact H
         clear H
         have H := H1
         clear H1
         simp only [Option.some.injEq, Prod.mk.injEq] at H
         obtain ⟨rfl, rfl⟩ := H
         go_wp2
         go_ret2
         exact ⟨qw_, qb_ HB.out⟩
        ·replace c26 := Bool.eq_false_iff.mpr c26
         subst c26
         have H1 : (if 0 < (a0.size : Int) then (if (bt a0 0) = 45 then (some (wrap64 ((wrap64 ((-60) * t117)) - t121), true)) else (some (wrap64 ((wrap64 (60 * t117)) + t121), true))) else (none)) = some (r1, r2) := by rw [if_neg (show ¬ (false = true) by decide)] at H; exact H
         clear H
         have H := H1
         clear H1
         by_cases c27 : 0 < (a0.size : Int)
         ·rw [if_pos c27] at H
          have c27b0 : decide (0 < (a0.size : Int)) = true := decide_eq_true c27
          have c27b1 : decide (0 < a0.size) = true := decide_eq_true (by omega)
          clear c27
          by_cases c29 : (bt a0 0) = 45
          ·rw [if_pos c29] at H
           have c29b0 : ((bt a0 0) == 45) = true := beq_iff_eq.mpr c29
           have c29b1 : ((bt a0 0) != 45) = false := bne_eq_false_iff_eq.mpr c29
           clear c29
           simp only [Option.some.injEq, Prod.mk.injEq] at H
           obtain ⟨rfl, rfl⟩ := H
           have p28 : 0 ≤ (0 : Int) := (by omega)
           have q28 : 0 < a0.size := (by have : (0 : Int) < (a0.size : Int) := qd_; omega)
           have hx28 : ∀ h : 0 < a0.size, ((a0[0]'h).toNat : Int) = bt a0 0 := bt_at a0 0
           clear p28
           have qi28 : (0 < (a0.size : Int)) = True := eq_true (qd_)
           replace q28 := eq_true q28
           go_wp2
           go_ret2
           exact ⟨qw_, qb_ HB.out⟩
          ·rw [if_neg c29] at H
           have c29b0 : ((bt a0 0) == 45) = false := beq_eq_false_iff_ne.mpr c29
           have c29b1 : ((bt a0 0) != 45) = true := bne_iff_ne.mpr c29
           simp only [Option.some.injEq, Prod.mk.injEq] at H
           obtain ⟨rfl, rfl⟩ := H
           have p28 : 0 ≤ (0 : Int) := (by omega)
           have q28 : 0 < a0.size := (by have : (0 : Int) < (a0.size : Int) := qd_; omega)
           have hx28 : ∀ h : 0 < a0.size, ((a0[0]'h).toNat : Int) = bt a0 0 := bt_at a0 0
           clear p28
           have qi28 : (0 < (a0.size : Int)) = True := eq_true (qd_)
           replace q28 := eq_true q28
           go_wp2
           go_ret2
           exact ⟨qw_, qb_ HB.out⟩
         ·rw [if_neg c27] at H
          exact absurd H (by simp)
     ·rw [if_neg c10] at H
      exact absurd H (by simp)
    ·rw [if_neg c9] at H
     exact absurd H (by simp)

end Go.Proofs.YtmbiggcapakjjaaDoor.P
