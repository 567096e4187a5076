-- Written by a program of this session (wip/tools/mk.sh) for this claim: it runs the kit's print with contracts of our own. Lean checks it.
import Derived.Test.YtbjbagocnnffaaaDoorPx0
import Derived.Test.YtbjbagocnnffaaaDoorWRepsOne
import Derived.Test.YtbjbagocnnffaaaDoorZStr
namespace Go.Proofs.YtbjbagocnnffaaaDoor.P
open Go.RowKit Go.Proofs.YtbjbagocnnffaaaDoorW.PrintWords Go.Proofs.YtbjbagocnnffaaaDoorW.PrintLast Go.Proofs.YtbjbagocnnffaaaDoorW.PrintMore
attribute [-simp] Int.tmod_tmod_of_dvd
attribute [local go_sem] max2_int min2_int max_two min_two max_three min_three max_four min_four   -- for this text's walks alone
set_option linter.unusedVariables false
set_option linter.unusedSimpArgs false

/-! ### letterboxref15_last: function 23 -/
def letterboxref15_last.l0 : Nat → ByteArray → Int → Int → Option (Int)
 | 0, _, _, _ => none
 | k + 1, x0, x1, x5 => if x5 ≥ 0 then (if 0 ≤ x5 then (if x5 < (x0.size : Int) then (if (bt x0 x5) = x1 then (some x5) else (letterboxref15_last.l0 k x0 x1 (wrap64 (x5 - 1)))) else (none)) else (none)) else (some (-1))
def letterboxref15_last.f (k : Nat) (a0 : ByteArray) (a1 : Int) : Option (Int) := letterboxref15_last.l0 k a0 a1 (wrap64 ((a0.size : Int) - 1))
theorem letterboxref15_last.mono_l : ∀ k, (∀ y0 y1 y2, LeO (letterboxref15_last.l0 k y0 y1 y2) (letterboxref15_last.l0 (k + 1) y0 y1 y2))
 | 0 => fun _ _ _ r h => by simp [letterboxref15_last.l0] at h
 | k + 1 => by
  have ih0 := letterboxref15_last.mono_l k
  ·intro y0 y1 y2
   unfold letterboxref15_last.l0
   repeat' first
   | (with_reducible exact ih0 _ _ _)
   | (with_reducible exact LeO.refl _)
   | (with_reducible exact LeO.none _)
   | (with_reducible refine LeO.ite ?_ ?_)
   | (with_reducible refine LeO.bind ?_ (fun _ => ?_))
   | exact ih0 _ _ _
   | exact LeO.none _
   | refine LeO.ite ?_ ?_
   | refine LeO.bind ?_ (fun _ => ?_)
theorem letterboxref15_last.mono : ∀ a0 a1 k, LeO (letterboxref15_last.f k a0 a1) (letterboxref15_last.f (k + 1) a0 a1) := by
 intro a0 a1 k
 have ih0 := letterboxref15_last.mono_l k
 unfold letterboxref15_last.f
 repeat' first
   | (with_reducible exact ih0 _ _ _)
   | (with_reducible exact LeO.refl _)
   | (with_reducible exact LeO.none _)
   | (with_reducible refine LeO.ite ?_ ?_)
   | (with_reducible refine LeO.bind ?_ (fun _ => ?_))
   | exact ih0 _ _ _
   | exact LeO.none _
   | refine LeO.ite ?_ ?_
   | refine LeO.bind ?_ (fun _ => ?_)
set_option maxHeartbeats 8000000 in
set_option maxRecDepth 100000 in
theorem letterboxref15_last.calls (k : Nat) (a0 : ByteArray) (a1 : Int) (r : Int) (w : World) (h : letterboxref15_last.f k a0 a1 = some r) :
  Calls Tryd.prog 23 #[.string a0, .int .u8 a1] w fun e w' => e = .returned (.int .i64 r) ∧ Drawn0 w w' := by
 have H : (letterboxref15_last.l0 k a0 a1 (wrap64 ((a0.size : Int) - 1))) = some r := h
 clear h
 have H' := Aside0.mk H
 clear H
 go_enter Tryd.func23, Tryd.ntmps23
 go_wp2
 go_loopg [5] k (fun kq v5 w' => ∃ (x5_1 : Int), v5 = .int .i64 x5_1 ∧ Aside0 (letterboxref15_last.l0 kq a0 a1 x5_1 = some r) ∧ Aside0 (kq ≤ k) ∧ Drawn0 w w')
 case atStart => exact ⟨(wrap64 ((a0.size : Int) - 1)), qr_, H', ⟨Nat.le_refl _⟩, by repeat (first | exact Drawn0.refl _ | apply Drawn0.step)⟩
 case round =>
  clear H'
  obtain ⟨x5_1, rfl, HA, HK1, ⟨m1, rfl⟩⟩ := hrel
  cases gk with
  | zero => exact absurd HA.out (by simp [letterboxref15_last.l0])
  | succ k1 =>
   have H := HA.out
   clear HA
   simp only [letterboxref15_last.l0] at H
   by_cases c3 : x5_1 ≥ 0
   ·rw [if_pos c3] at H
    have c3b0 : decide (0 ≤ x5_1) = true := decide_eq_true c3
    clear c3
    by_cases c4 : 0 ≤ x5_1
    ·rw [if_pos c4] at H
     have c4b0 : decide (0 ≤ x5_1) = true := decide_eq_true c4
     clear c4
     by_cases c5 : x5_1 < (a0.size : Int)
     ·rw [if_pos c5] at H
      have c5b0 : decide (x5_1 < (a0.size : Int)) = true := decide_eq_true c5
      clear c5
      by_cases c7 : (bt a0 x5_1) = a1
      ·rw [if_pos c7] at H
       have c7b0 : ((bt a0 x5_1) == a1) = true := beq_iff_eq.mpr c7
       have c7b1 : ((bt a0 x5_1) != a1) = false := bne_eq_false_iff_eq.mpr c7
       clear c7
       obtain rfl := Option.some.inj H
       have p6 : 0 ≤ (x5_1 : Int) := qd_
       have q6 : x5_1 < (a0.size : Int) := qd_
       have hx6 := bt_at a0 x5_1
       replace p6 := eq_true p6
       replace q6 := eq_true q6
       go_wp2
       go_ret
       exact ⟨by first | rfl | (simp; done) | (simp [*]; done), by repeat (first | exact Drawn0.refl _ | apply Drawn0.step)⟩
      ·rw [if_neg c7] at H
       have c7b0 : ((bt a0 x5_1) == a1) = false := beq_eq_false_iff_ne.mpr c7
       have c7b1 : ((bt a0 x5_1) != a1) = true := bne_iff_ne.mpr c7
       have H' := Aside0.mk H
       clear H
       have p6 : 0 ≤ (x5_1 : Int) := qd_
       have q6 : x5_1 < (a0.size : Int) := qd_
       have hx6 := bt_at a0 x5_1
       replace p6 := eq_true p6
       replace q6 := eq_true q6
       go_wp2
       go_roundg k1
       case measure => have := HK1.out; omega
       case rel => exact ⟨(wrap64 (x5_1 - 1)), qr_, H', ⟨by have := HK1.out; omega⟩, by repeat (first | exact Drawn0.refl _ | apply Drawn0.step)⟩
     ·rw [if_neg c5] at H
      exact absurd H (by simp)
    ·rw [if_neg c4] at H
     exact absurd H (by simp)
   ·rw [if_neg c3] at H
    have c3b0 : decide (0 ≤ x5_1) = false := decide_eq_false c3
    clear c3
    obtain rfl := Option.some.inj H
    go_wp2
    go_ret
    exact ⟨by first | rfl | (simp; done) | (simp [*]; done), by repeat (first | exact Drawn0.refl _ | apply Drawn0.step)⟩

/-! ### letterboxref15_head: function 24 -/
def letterboxref15_head.l0 : Nat → ByteArray → Int → Int → Option (ByteArray × ByteArray × Bool)
 | 0, _, _, _ => none
 | k + 1, x0, x1, x7 => if x7 < (x0.size : Int) then (if 0 ≤ x7 then (if (bt x0 x7) = x1 then (if x7 ≤ (x0.size : Int) then (if 0 ≤ (wrap64 (x7 + 1)) then (if (wrap64 (x7 + 1)) ≤ (x0.size : Int) then (some (x0.extract 0 (x7 : Int).toNat, x0.extract ((wrap64 (x7 + 1)) : Int).toNat x0.size, true)) else (none)) else (none)) else (none)) else (letterboxref15_head.l0 k x0 x1 (wrap64 (x7 + 1)))) else (none)) else (some (x0, (⟨#[]⟩ : ByteArray), false))
def letterboxref15_head.f (k : Nat) (a0 : ByteArray) (a1 : Int) : Option (ByteArray × ByteArray × Bool) := letterboxref15_head.l0 k a0 a1 0
theorem letterboxref15_head.mono_l : ∀ k, (∀ y0 y1 y2, LeO (letterboxref15_head.l0 k y0 y1 y2) (letterboxref15_head.l0 (k + 1) y0 y1 y2))
 | 0 => fun _ _ _ r h => by simp [letterboxref15_head.l0] at h
 | k + 1 => by
  have ih0 := letterboxref15_head.mono_l k
  ·intro y0 y1 y2
   unfold letterboxref15_head.l0
   repeat' first
   | (with_reducible exact ih0 _ _ _)
   | (with_reducible exact LeO.refl _)
   | (with_reducible exact LeO.none _)
   | (with_reducible refine LeO.ite ?_ ?_)
   | (with_reducible refine LeO.bind ?_ (fun _ => ?_))
   | exact ih0 _ _ _
   | exact LeO.none _
   | refine LeO.ite ?_ ?_
   | refine LeO.bind ?_ (fun _ => ?_)
theorem letterboxref15_head.mono : ∀ a0 a1 k, LeO (letterboxref15_head.f k a0 a1) (letterboxref15_head.f (k + 1) a0 a1) := by
 intro a0 a1 k
 have ih0 := letterboxref15_head.mono_l k
 unfold letterboxref15_head.f
 repeat' first
   | (with_reducible exact ih0 _ _ _)
   | (with_reducible exact LeO.refl _)
   | (with_reducible exact LeO.none _)
   | (with_reducible refine LeO.ite ?_ ?_)
   | (with_reducible refine LeO.bind ?_ (fun _ => ?_))
   | exact ih0 _ _ _
   | exact LeO.none _
   | refine LeO.ite ?_ ?_
   | refine LeO.bind ?_ (fun _ => ?_)
set_option maxHeartbeats 8000000 in
set_option maxRecDepth 100000 in
theorem letterboxref15_head.calls (k : Nat) (a0 : ByteArray) (a1 : Int) (r1 : ByteArray) (r2 : ByteArray) (r3 : Bool) (w : World) (h : letterboxref15_head.f k a0 a1 = some (r1, r2, r3)) :
  Calls Tryd.prog 24 #[.string a0, .int .u8 a1] w fun e w' => e = .returned (.tuple #[.string r1, .string r2, .bool r3]) ∧ Drawn0 w w' := by
 have hw8_ : ∀ x_ : Int, IntKind.u8.wrap x_ = x_ % 256 := IntKind.wrap_u8
 have H : (letterboxref15_head.l0 k a0 a1 0) = some (r1, r2, r3) := h
 clear h
 have H' := Aside0.mk H
 clear H
 go_enter Tryd.func24, Tryd.ntmps24
 go_wp2
 repeat (go_quiet (fail); try go_wp2)
 go_loopg [7] k (fun kq v7 w' => ∃ (x7_1 : Int), v7 = .int .i64 x7_1 ∧ Aside0 (letterboxref15_head.l0 kq a0 a1 x7_1 = some (r1, r2, r3)) ∧ Aside0 (kq ≤ k) ∧ Drawn0 w w')
 case atStart => exact ⟨(0), qr_, H', ⟨Nat.le_refl _⟩, by repeat (first | exact Drawn0.refl _ | apply Drawn0.step)⟩
 case round =>
  clear H'
  obtain ⟨x7_1, rfl, HA, HK1, ⟨m1, rfl⟩⟩ := hrel
  cases gk with
  | zero => exact absurd HA.out (by simp [letterboxref15_head.l0])
  | succ k1 =>
   have H := HA.out
   clear HA
   simp only [letterboxref15_head.l0] at H
   by_cases c3 : x7_1 < (a0.size : Int)
   ·rw [if_pos c3] at H
    have c3b0 : decide (x7_1 < (a0.size : Int)) = true := decide_eq_true c3
    clear c3
    by_cases c4 : 0 ≤ x7_1
    ·rw [if_pos c4] at H
     have c4b0 : decide (0 ≤ x7_1) = true := decide_eq_true c4
     clear c4
     by_cases c6 : (bt a0 x7_1) = a1
     ·rw [if_pos c6] at H
      have c6b0 : ((bt a0 x7_1) == a1) = true := beq_iff_eq.mpr c6
      have c6b1 : ((bt a0 x7_1) != a1) = false := bne_eq_false_iff_eq.mpr c6
      clear c6
      have c7b0 := eq_true (qd_ : 0 ≤ x7_1)
      by_cases c8 : x7_1 ≤ (a0.size : Int)
      ·rw [if_pos c8] at H
       have c8b0 := eq_true c8
       have c8b1 : decide (x7_1 ≤ (a0.size : Int)) = true := decide_eq_true c8
       clear c8
       obtain ⟨ji9, hji9⟩ : ∃ j_ : Int, (wrap64 (x7_1 + 1)) = j_ := ⟨_, rfl⟩
       replace H : (if 0 ≤ (ji9) then (if (ji9) ≤ (a0.size : Int) then (some (a0.extract 0 (x7_1 : Int).toNat, a0.extract ((ji9) : Int).toNat a0.size, true)) else (none)) else (none)) = some (r1, r2, r3) := by first | (rw [hji9] at H; exact H) | (simp only [hji9] at H ⊢; exact H)
       have hji9w : (IntKind.i64.wrap (x7_1 + 1)) = ji9 := (i64_w _).trans hji9
       by_cases c10 : 0 ≤ (ji9)
       ·rw [if_pos c10] at H
        have c10b0 := eq_true c10
        have c10b1 : decide (0 ≤ (ji9)) = true := decide_eq_true c10
        clear c10
        by_cases c11 : (ji9) ≤ (a0.size : Int)
        ·rw [if_pos c11] at H
         have c11b0 := eq_true c11
         have c11b1 : decide ((ji9) ≤ (a0.size : Int)) = true := decide_eq_true c11
         clear c11
         simp only [Option.some.injEq, Prod.mk.injEq] at H
         obtain ⟨rfl, rfl, rfl⟩ := H
         have p5 : 0 ≤ (x7_1 : Int) := qd_
         have q5 : x7_1 < (a0.size : Int) := qd_
         have hx5 := bt_at a0 x7_1
         replace p5 := eq_true p5
         replace q5 := eq_true q5
         go_wp2
         repeat (go_quiet (fail); try go_wp2)
         go_ret3
         exact ⟨by first | rfl | (simp; done) | (simp only [← hji9] <;> (first | rfl | simp)) | (simp [*]; done), by repeat (first | exact Drawn0.refl _ | apply Drawn0.step)⟩
        ·rw [if_neg c11] at H
         exact absurd H (by simp)
       ·rw [if_neg c10] at H
        exact absurd H (by simp)
      ·rw [if_neg c8] at H
       exact absurd H (by simp)
     ·rw [if_neg c6] at H
      have c6b0 : ((bt a0 x7_1) == a1) = false := beq_eq_false_iff_ne.mpr c6
      have c6b1 : ((bt a0 x7_1) != a1) = true := bne_iff_ne.mpr c6
      have H' := Aside0.mk H
      clear H
      have p5 : 0 ≤ (x7_1 : Int) := qd_
      have q5 : x7_1 < (a0.size : Int) := qd_
      have hx5 := bt_at a0 x7_1
      replace p5 := eq_true p5
      replace q5 := eq_true q5
      go_wp2
      repeat (go_quiet (fail); try go_wp2)
      go_roundg k1
      case measure => have := HK1.out; omega
      case rel => exact ⟨(wrap64 (x7_1 + 1)), qr_, H', ⟨by have := HK1.out; omega⟩, by repeat (first | exact Drawn0.refl _ | apply Drawn0.step)⟩
    ·rw [if_neg c4] at H
     exact absurd H (by simp)
   ·rw [if_neg c3] at H
    have c3b0 : decide (x7_1 < (a0.size : Int)) = false := decide_eq_false c3
    clear c3
    simp only [Option.some.injEq, Prod.mk.injEq] at H
    obtain ⟨rfl, rfl, rfl⟩ := H
    go_wp2
    repeat (go_quiet (fail); try go_wp2)
    go_ret3
    exact ⟨by first | rfl | (simp; done) | (simp [*]; done), by repeat (first | exact Drawn0.refl _ | apply Drawn0.step)⟩

/-! ### letterboxref01_number: function 46 -/
def letterboxref01_number.f (a0 : Int) : Option (Int × Bool) := if a0 > 4294967295 then (some (0, false)) else (some (a0, true))
set_option maxHeartbeats 8000000 in
set_option maxRecDepth 100000 in
theorem letterboxref01_number.calls (a0 : Int) (r1 : Int) (r2 : Bool) (w : World) (h : letterboxref01_number.f a0 = some (r1, r2)) :
  Calls Tryd.prog 46 #[.int .i64 a0] w fun e w' => e = .returned (.tuple #[.int .i64 r1, .bool r2]) ∧ Drawn0 w w' := by
 have H : (if a0 > 4294967295 then (some (0, false)) else (some (a0, true))) = some (r1, r2) := h
 clear h
 by_cases c2 : a0 > 4294967295
 ·rw [if_pos c2] at H
  have c2b0 : decide (4294967295 < a0) = true := decide_eq_true c2
  clear c2
  simp only [Option.some.injEq, Prod.mk.injEq] at H
  obtain ⟨rfl, rfl⟩ := H
  go_enter Tryd.func46, Tryd.ntmps46
  go_wp2
  go_ret2
  exact ⟨by first | rfl | (simp; done) | (simp [*]; done), by repeat (first | exact Drawn0.refl _ | apply Drawn0.step)⟩
 ·rw [if_neg c2] at H
  have c2b0 : decide (4294967295 < a0) = false := decide_eq_false c2
  clear c2
  simp only [Option.some.injEq, Prod.mk.injEq] at H
  obtain ⟨rfl, rfl⟩ := H
  go_enter Tryd.func46, Tryd.ntmps46
  go_wp2
  go_ret2
  exact ⟨by first | rfl | (simp; done) | (simp [*]; done), by repeat (first | exact Drawn0.refl _ | apply Drawn0.step)⟩

/-! ### letterboxref01_Number: function 27 -/
mutual
def letterboxref01_Number.j0 : Nat → ByteArray → Bool → Option (Int × Bool)
 | 0, _, _ => none
 | k + 1, x0, x19 => if x19 = true then (some (0, false)) else (letterboxref01_Number.l0 k x0 0 0)
def letterboxref01_Number.l0 : Nat → ByteArray → Int → Int → Option (Int × Bool)
 | 0, _, _, _ => none
 | k + 1, x0, x4, x5 => if x5 < (x0.size : Int) then (if 0 ≤ x5 then (if (bt x0 x5) < 48 then (some (0, false)) else (if (bt x0 x5) > 57 then (some (0, false)) else (letterboxref01_Number.l0 k x0 (wrap64 ((wrap64 ((wrap64 (x4 * 10)) + (wrap64 (bt x0 x5)))) - 48)) (wrap64 (x5 + 1))))) else (none)) else ((letterboxref01_number.f x4).bind fun bt215 => (some (bt215.1, bt215.2)))
end
def letterboxref01_Number.f (k : Nat) (a0 : ByteArray) : Option (Int × Bool) := if a0.toList = ([48] : List UInt8) then (some (0, true)) else (if a0.toList = ([] : List UInt8) then (letterboxref01_Number.j0 k a0 true) else (if (a0.size : Int) > 10 then (letterboxref01_Number.j0 k a0 true) else (if 0 < (a0.size : Int) then (letterboxref01_Number.j0 k a0 ((bt a0 0) == 48)) else (none))))
theorem letterboxref01_Number.mono_l : ∀ k, (∀ y0 y1, LeO (letterboxref01_Number.j0 k y0 y1) (letterboxref01_Number.j0 (k + 1) y0 y1)) ∧ (∀ y0 y1 y2, LeO (letterboxref01_Number.l0 k y0 y1 y2) (letterboxref01_Number.l0 (k + 1) y0 y1 y2))
 | 0 => ⟨fun _ _ r h => by simp [letterboxref01_Number.j0] at h, fun _ _ _ r h => by simp [letterboxref01_Number.l0] at h⟩
 | k + 1 => by
  obtain ⟨ih0, ih1⟩ := letterboxref01_Number.mono_l k
  refine ⟨?_, ?_⟩
  ·intro y0 y1
   unfold letterboxref01_Number.j0
   repeat' first
   | (with_reducible exact ih0 _ _)
   | (with_reducible exact ih1 _ _ _)
   | (with_reducible exact LeO.refl _)
   | (with_reducible exact LeO.none _)
   | (with_reducible refine LeO.ite ?_ ?_)
   | (with_reducible refine LeO.bind ?_ (fun _ => ?_))
   | exact ih0 _ _
   | exact ih1 _ _ _
   | exact LeO.none _
   | refine LeO.ite ?_ ?_
   | refine LeO.bind ?_ (fun _ => ?_)
  ·intro y0 y1 y2
   unfold letterboxref01_Number.l0
   repeat' first
   | (with_reducible exact ih0 _ _)
   | (with_reducible exact ih1 _ _ _)
   | (with_reducible exact LeO.refl _)
   | (with_reducible exact LeO.none _)
   | (with_reducible refine LeO.ite ?_ ?_)
   | (with_reducible refine LeO.bind ?_ (fun _ => ?_))
   | exact ih0 _ _
   | exact ih1 _ _ _
   | exact LeO.none _
   | refine LeO.ite ?_ ?_
   | refine LeO.bind ?_ (fun _ => ?_)
theorem letterboxref01_Number.mono : ∀ a0 k, LeO (letterboxref01_Number.f k a0) (letterboxref01_Number.f (k + 1) a0) := by
 intro a0 k
 obtain ⟨ih0, ih1⟩ := letterboxref01_Number.mono_l k
 unfold letterboxref01_Number.f
 repeat' first
   | (with_reducible exact ih0 _ _)
   | (with_reducible exact ih1 _ _ _)
   | (with_reducible exact LeO.refl _)
   | (with_reducible exact LeO.none _)
   | (with_reducible refine LeO.ite ?_ ?_)
   | (with_reducible refine LeO.bind ?_ (fun _ => ?_))
   | exact ih0 _ _
   | exact ih1 _ _ _
   | exact LeO.none _
   | refine LeO.ite ?_ ?_
   | refine LeO.bind ?_ (fun _ => ?_)
set_option maxHeartbeats 8000000 in
set_option maxRecDepth 100000 in
theorem letterboxref01_Number.calls (k : Nat) (a0 : ByteArray) (r1 : Int) (r2 : Bool) (w : World) (h : letterboxref01_Number.f k a0 = some (r1, r2)) :
  Calls Tryd.prog 27 #[.string a0] w fun e w' => e = .returned (.tuple #[.int .i64 r1, .bool r2]) ∧ Drawn0 w w' := by
 have H : (if a0.toList = ([48] : List UInt8) then (some (0, true)) else (if a0.toList = ([] : List UInt8) then (letterboxref01_Number.j0 k a0 true) else (if (a0.size : Int) > 10 then (letterboxref01_Number.j0 k a0 true) else (if 0 < (a0.size : Int) then (letterboxref01_Number.j0 k a0 ((bt a0 0) == 48)) else (none))))) = some (r1, r2) := h
 clear h
 by_cases c2 : a0.toList = ([48] : List UInt8)
 ·rw [if_pos c2] at H
  have c2b0 : (a0.toList == ([48] : List UInt8)) = true := beq_iff_eq.mpr c2
  have c2b1 : (a0.toList != ([48] : List UInt8)) = false := bne_eq_false_iff_eq.mpr c2
  clear c2
  simp only [Option.some.injEq, Prod.mk.injEq] at H
  obtain ⟨rfl, rfl⟩ := H
  go_enter Tryd.func27, Tryd.ntmps27
  go_wp2
  go_ret2
  exact ⟨by first | rfl | (simp; done) | (simp [*]; done), by repeat (first | exact Drawn0.refl _ | apply Drawn0.step)⟩
 ·rw [if_neg c2] at H
  have c2b0 : (a0.toList == ([48] : List UInt8)) = false := beq_eq_false_iff_ne.mpr c2
  have c2b1 : (a0.toList != ([48] : List UInt8)) = true := bne_iff_ne.mpr c2
  have HC3 := Aside0.mk H
  clear H
  go_enter Tryd.func27, Tryd.ntmps27
  go_upto_region 3 with (fail)
  go_cut [19] (fun v19 wc => ∃ (kq : Nat) (x19_2 : Bool), v19 = .bool x19_2 ∧ Aside0 (letterboxref01_Number.j0 kq a0 x19_2 = some (r1, r2)) ∧ Aside0 (kq ≤ k) ∧ Drawn0 w wc)
  case first =>
   have H := HC3.out
   clear HC3
   by_cases c4 : a0.toList = ([] : List UInt8)
   ·rw [if_pos c4] at H
    have c4b0 : (a0.toList == ([] : List UInt8)) = true := beq_iff_eq.mpr c4
    have c4b1 : (a0.toList != ([] : List UInt8)) = false := bne_eq_false_iff_eq.mpr c4
    clear c4
    (first | rw [c4b0] | (simp only [i64_w, i32_w]; rw [c4b0]) | skip)
    have H' := Aside0.mk H
    clear H
    go_wp2
    go_meet
    case rel => exact ⟨_, (true), qr_, H', ⟨by first | omega | exact Nat.le_refl _⟩, by repeat (first | exact Drawn0.refl _ | apply Drawn0.step)⟩
   ·rw [if_neg c4] at H
    have c4b0 : (a0.toList == ([] : List UInt8)) = false := beq_eq_false_iff_ne.mpr c4
    have c4b1 : (a0.toList != ([] : List UInt8)) = true := bne_iff_ne.mpr c4
    (first | rw [c4b0] | (simp only [i64_w, i32_w]; rw [c4b0]) | skip)
    by_cases c5 : (a0.size : Int) > 10
    ·rw [if_pos c5] at H
     have c5b0 : decide (10 < (a0.size : Int)) = true := decide_eq_true c5
     have c5b1 : decide (10 < a0.size) = true := decide_eq_true (by omega)
     clear c5
     have H' := Aside0.mk H
     clear H
     go_wp2
     go_meet
     case rel => exact ⟨_, (true), qr_, H', ⟨by first | omega | exact Nat.le_refl _⟩, by repeat (first | exact Drawn0.refl _ | apply Drawn0.step)⟩
    ·rw [if_neg c5] at H
     have c5b0 : decide (10 < (a0.size : Int)) = false := decide_eq_false c5
     have c5b1 : decide (10 < a0.size) = false := decide_eq_false (by omega)
     clear c5
     by_cases c6 : 0 < (a0.size : Int)
     ·rw [if_pos c6] at H
      have c6b0 : decide (0 < (a0.size : Int)) = true := decide_eq_true c6
      have c6b1 : decide (0 < a0.size) = true := decide_eq_true (by omega)
      clear c6
      have H' := Aside0.mk H
      clear H
      have p7 : 0 ≤ (0 : Int) := (by omega)
      have q7 : 0 < a0.size := (by have : (0 : Int) < (a0.size : Int) := qd_; omega)
      have hx7 : ∀ h : 0 < a0.size, ((a0[0]'h).toNat : Int) = bt a0 0 := bt_at a0 0
      clear p7
      have qi7 : (0 < (a0.size : Int)) = True := eq_true (qd_)
      replace q7 := eq_true q7
      go_wp2
      go_meet
      case rel => exact ⟨_, (((bt a0 0) == 48)), qr_, H', ⟨by first | omega | exact Nat.le_refl _⟩, by repeat (first | exact Drawn0.refl _ | apply Drawn0.step)⟩
     ·rw [if_neg c6] at H
      exact absurd H (by simp)
  case rest =>
   clear HC3
   obtain ⟨kq, x19_2, rfl, HA, HJ2, ⟨mc2, rfl⟩⟩ := hcut
   cases kq with
   | zero => exact absurd HA.out (by simp [letterboxref01_Number.j0])
   | succ kj2 =>
    have H := HA.out
    clear HA
    simp only [letterboxref01_Number.j0] at H
    by_cases c8 : x19_2 = true
    ·subst c8
     have H1 : (some (0, false)) = some (r1, r2) := by rw [if_pos rfl] at H; exact H
     clear H
     have H := H1
     clear H1
     simp only [Option.some.injEq, Prod.mk.injEq] at H
     obtain ⟨rfl, rfl⟩ := H
     go_wp2
     go_ret2
     exact ⟨by first | rfl | (simp; done) | (simp [*]; done), by repeat (first | exact Drawn0.refl _ | apply Drawn0.step)⟩
    ·replace c8 := Bool.eq_false_iff.mpr c8
     subst c8
     have H1 : (letterboxref01_Number.l0 kj2 a0 0 0) = some (r1, r2) := by rw [if_neg (show ¬ (false = true) by decide)] at H; exact H
     clear H
     have H := H1
     clear H1
     have H' := Aside0.mk H
     clear H
     go_wp2
     go_loopg [4, 5] kj2 (fun kq v4 v5 w' => ∃ (x4_2 : Int) (x5_2 : Int), v4 = .int .i64 x4_2 ∧ v5 = .int .i64 x5_2 ∧ Aside0 (letterboxref01_Number.l0 kq a0 x4_2 x5_2 = some (r1, r2)) ∧ Aside0 (kq ≤ kj2) ∧ Drawn0 w w')
     case atStart => exact ⟨(0), (0), qr_, qr_, H', ⟨Nat.le_refl _⟩, by repeat (first | exact Drawn0.refl _ | apply Drawn0.step)⟩
     case round =>
      clear H'
      (try clear c8)
      obtain ⟨x4_2, x5_2, rfl, rfl, HA, HK2, ⟨m2, rfl⟩⟩ := hrel
      cases gk with
      | zero => exact absurd HA.out (by simp [letterboxref01_Number.l0])
      | succ k2 =>
       have H := HA.out
       clear HA
       simp only [letterboxref01_Number.l0] at H
       by_cases c9 : x5_2 < (a0.size : Int)
       ·rw [if_pos c9] at H
        have c9b0 : decide (x5_2 < (a0.size : Int)) = true := decide_eq_true c9
        clear c9
        by_cases c10 : 0 ≤ x5_2
        ·rw [if_pos c10] at H
         have c10b0 : decide (0 ≤ x5_2) = true := decide_eq_true c10
         clear c10
         by_cases c12 : (bt a0 x5_2) < 48
         ·rw [if_pos c12] at H
          have c12b0 : decide ((bt a0 x5_2) < 48) = true := decide_eq_true c12
          clear c12
          simp only [Option.some.injEq, Prod.mk.injEq] at H
          obtain ⟨rfl, rfl⟩ := H
          have p11 : 0 ≤ (x5_2 : Int) := qd_
          have q11 : x5_2 < (a0.size : Int) := qd_
          have hx11 := bt_at a0 x5_2
          replace p11 := eq_true p11
          replace q11 := eq_true q11
          go_wp2
          go_ret2
          exact ⟨by first | rfl | (simp; done) | (simp [*]; done), by repeat (first | exact Drawn0.refl _ | apply Drawn0.step)⟩
         ·rw [if_neg c12] at H
          have c12b0 : decide ((bt a0 x5_2) < 48) = false := decide_eq_false c12
          clear c12
          by_cases c14 : (bt a0 x5_2) > 57
          ·rw [if_pos c14] at H
           have c14b0 : decide (57 < (bt a0 x5_2)) = true := decide_eq_true c14
           clear c14
           simp only [Option.some.injEq, Prod.mk.injEq] at H
           obtain ⟨rfl, rfl⟩ := H
           have p11 : 0 ≤ (x5_2 : Int) := qd_
           have q11 : x5_2 < (a0.size : Int) := qd_
           have hx11 := bt_at a0 x5_2
           replace p11 := eq_true p11
           replace q11 := eq_true q11
           have p13 : 0 ≤ (x5_2 : Int) := qd_
           have q13 : x5_2 < (a0.size : Int) := qd_
           have hx13 := bt_at a0 x5_2
           replace p13 := eq_true p13
           replace q13 := eq_true q13
           go_wp2
           go_ret2
           exact ⟨by first | rfl | (simp; done) | (simp [*]; done), by repeat (first | exact Drawn0.refl _ | apply Drawn0.step)⟩
          ·rw [if_neg c14] at H
           have c14b0 : decide (57 < (bt a0 x5_2)) = false := decide_eq_false c14
           clear c14
           have H' := Aside0.mk H
           clear H
           have p11 : 0 ≤ (x5_2 : Int) := qd_
           have q11 : x5_2 < (a0.size : Int) := qd_
           have hx11 := bt_at a0 x5_2
           replace p11 := eq_true p11
           replace q11 := eq_true q11
           have p13 : 0 ≤ (x5_2 : Int) := qd_
           have q13 : x5_2 < (a0.size : Int) := qd_
           have hx13 := bt_at a0 x5_2
           replace p13 := eq_true p13
           replace q13 := eq_true q13
           have p15 : 0 ≤ (x5_2 : Int) := qd_
           have q15 : x5_2 < (a0.size : Int) := qd_
           have hx15 := bt_at a0 x5_2
           replace p15 := eq_true p15
           replace q15 := eq_true q15
           go_wp2
           go_roundg k2
           case measure => have := HJ2.out; have := HK2.out; omega
           case rel => exact ⟨(wrap64 ((wrap64 ((wrap64 (x4_2 * 10)) + (wrap64 (bt a0 x5_2)))) - 48)), (wrap64 (x5_2 + 1)), qr_, qr_, H', ⟨by have := HJ2.out; have := HK2.out; omega⟩, by repeat (first | exact Drawn0.refl _ | apply Drawn0.step)⟩
        ·rw [if_neg c10] at H
         exact absurd H (by simp)
       ·rw [if_neg c9] at H
        have c9b0 : decide (x5_2 < (a0.size : Int)) = false := decide_eq_false c9
        clear c9
        replace H := Option.bind_eq_some_iff.mp H
        obtain ⟨⟨t215, t216⟩, A160, H⟩ := H
        replace H : (some (t215, t216)) = some (r1, r2) := H
        have A16 := Aside0.mk A160
        clear A160
        simp only [Option.some.injEq, Prod.mk.injEq] at H
        obtain ⟨rfl, rfl⟩ := H
        go_wp2_with (first | ((with_reducible refine gate_callee (f := 46) rfl ?_); refine goesL_ (some 45) rfl rfl Tryd.func46 (by kernel_rfl) rfl #[.int .i64 x4_2] rfl qa_ ?_; (with_reducible refine (letterboxref01_number.calls x4_2 t215 t216 _ A16.out).mono ?_); rintro e w' ⟨rfl, ⟨nd, rfl⟩⟩; refine ⟨_, rfl, ?_⟩))
        go_ret2
        exact ⟨by first | rfl | (simp; done) | (simp [*]; done), by repeat (first | exact Drawn0.refl _ | apply Drawn0.step)⟩

/-! ### letterboxref15_word: function 34 -/
def letterboxref15_word.f (a0 : Int) : Option (ByteArray) := (some (([(⟨#[]⟩ : ByteArray), (⟨#[72, 69, 65, 68, 69, 82]⟩ : ByteArray), (⟨#[72, 69, 65, 68, 69, 82, 46, 70, 73, 69, 76, 68, 83]⟩ : ByteArray), (⟨#[72, 69, 65, 68, 69, 82, 46, 70, 73, 69, 76, 68, 83, 46, 78, 79, 84]⟩ : ByteArray), (⟨#[84, 69, 88, 84]⟩ : ByteArray), (⟨#[77, 73, 77, 69]⟩ : ByteArray)] : List ByteArray) : List ByteArray)).bind fun y217 => (if 0 ≤ a0 then (if a0 < (y217.length : Int) then (some (rdOf ByteArray.empty y217 a0)) else (none)) else (none))
set_option maxHeartbeats 8000000 in
set_option maxRecDepth 100000 in
theorem letterboxref15_word.calls (a0 : Int) (r : ByteArray) (w : World) (h : letterboxref15_word.f a0 = some r) :
  Calls Tryd.prog 34 #[.int .i64 a0] w fun e w' => e = .returned (.string r) ∧ Below w.heap.size w w' := by
 have HB := Aside0.mk (Below.refl w.heap.size w)
 have H : ((some (([(⟨#[]⟩ : ByteArray), (⟨#[72, 69, 65, 68, 69, 82]⟩ : ByteArray), (⟨#[72, 69, 65, 68, 69, 82, 46, 70, 73, 69, 76, 68, 83]⟩ : ByteArray), (⟨#[72, 69, 65, 68, 69, 82, 46, 70, 73, 69, 76, 68, 83, 46, 78, 79, 84]⟩ : ByteArray), (⟨#[84, 69, 88, 84]⟩ : ByteArray), (⟨#[77, 73, 77, 69]⟩ : ByteArray)] : List ByteArray) : List ByteArray)).bind fun y217 => (if 0 ≤ a0 then (if a0 < (y217.length : Int) then (some (rdOf ByteArray.empty y217 a0)) else (none)) else (none))) = some r := h
 clear h
 obtain ⟨y217, hy217⟩ : ∃ y_ : List ByteArray, y_ = (([(⟨#[]⟩ : ByteArray), (⟨#[72, 69, 65, 68, 69, 82]⟩ : ByteArray), (⟨#[72, 69, 65, 68, 69, 82, 46, 70, 73, 69, 76, 68, 83]⟩ : ByteArray), (⟨#[72, 69, 65, 68, 69, 82, 46, 70, 73, 69, 76, 68, 83, 46, 78, 79, 84]⟩ : ByteArray), (⟨#[84, 69, 88, 84]⟩ : ByteArray), (⟨#[77, 73, 77, 69]⟩ : ByteArray)] : List ByteArray)) := ⟨_, rfl⟩
 replace H : (if 0 ≤ a0 then (if a0 < (y217.length : Int) then (some (rdOf ByteArray.empty y217 a0)) else (none)) else (none)) = some r := by first | (rw [hy217]; with_reducible exact H) | (have H2_ := (Option.bind_some _ _).symm.trans H; rw [hy217]; with_reducible exact H2_) | (have H2_ := (Option.bind_some _ _).symm.trans H; with_reducible exact H2_) | with_reducible exact H | (rw [hy217]; exact H) | exact H
 have Ny217 := Aside0.mk hy217
 clear hy217
 by_cases c2 : 0 ≤ a0
 ·rw [if_pos c2] at H
  have c2b0 : decide (0 ≤ a0) = true := decide_eq_true c2
  clear c2
  by_cases c3 : a0 < (y217.length : Int)
  ·rw [if_pos c3] at H
   have c3b0 : decide (a0 < (y217.length : Int)) = true := decide_eq_true c3
   clear c3
   obtain rfl := Option.some.inj H
   go_enter Tryd.func34, Tryd.ntmps34
   go_wp2_with (first | ((with_reducible refine gate_dst (N := 3) rfl ?_); refine Kd.R_lit Kd.string _ 9 ?hg (N := 3) ?hd (xs := ([(⟨#[]⟩ : ByteArray), (⟨#[72, 69, 65, 68, 69, 82]⟩ : ByteArray), (⟨#[72, 69, 65, 68, 69, 82, 46, 70, 73, 69, 76, 68, 83]⟩ : ByteArray), (⟨#[72, 69, 65, 68, 69, 82, 46, 70, 73, 69, 76, 68, 83, 46, 78, 79, 84]⟩ : ByteArray), (⟨#[84, 69, 88, 84]⟩ : ByteArray), (⟨#[77, 73, 77, 69]⟩ : ByteArray)] : List ByteArray)) (inner := [.string (⟨#[]⟩ : ByteArray), .string (⟨#[72, 69, 65, 68, 69, 82]⟩ : ByteArray), .string (⟨#[72, 69, 65, 68, 69, 82, 46, 70, 73, 69, 76, 68, 83]⟩ : ByteArray), .string (⟨#[72, 69, 65, 68, 69, 82, 46, 70, 73, 69, 76, 68, 83, 46, 78, 79, 84]⟩ : ByteArray), .string (⟨#[84, 69, 88, 84]⟩ : ByteArray), .string (⟨#[77, 73, 77, 69]⟩ : ByteArray)]) (ok := fun _ => True) (okp := fun _ => True) ?hr ?hp (fun _ hk => hk) trivial (Below.refl _ _) (Nat.le_refl _) (by simp) ?_; (case hd => rfl); (case hg => rfl); (case hr => first | (go_simp; done) | (go_simp; rfl)); (case hp => exact (Reps.one (show Kd.M Kd.string _ _ _ (⟨#[]⟩ : ByteArray) [.string (⟨#[]⟩ : ByteArray)] from rfl) (Reps.one (show Kd.M Kd.string _ _ _ (⟨#[72, 69, 65, 68, 69, 82]⟩ : ByteArray) [.string (⟨#[72, 69, 65, 68, 69, 82]⟩ : ByteArray)] from rfl) (Reps.one (show Kd.M Kd.string _ _ _ (⟨#[72, 69, 65, 68, 69, 82, 46, 70, 73, 69, 76, 68, 83]⟩ : ByteArray) [.string (⟨#[72, 69, 65, 68, 69, 82, 46, 70, 73, 69, 76, 68, 83]⟩ : ByteArray)] from rfl) (Reps.one (show Kd.M Kd.string _ _ _ (⟨#[72, 69, 65, 68, 69, 82, 46, 70, 73, 69, 76, 68, 83, 46, 78, 79, 84]⟩ : ByteArray) [.string (⟨#[72, 69, 65, 68, 69, 82, 46, 70, 73, 69, 76, 68, 83, 46, 78, 79, 84]⟩ : ByteArray)] from rfl) (Reps.one (show Kd.M Kd.string _ _ _ (⟨#[84, 69, 88, 84]⟩ : ByteArray) [.string (⟨#[84, 69, 88, 84]⟩ : ByteArray)] from rfl) (Reps.one (show Kd.M Kd.string _ _ _ (⟨#[77, 73, 77, 69]⟩ : ByteArray) [.string (⟨#[77, 73, 77, 69]⟩ : ByteArray)] from rfl) (Reps.none _ _)))))))); intro v218 w4 ho5 hb hg_ hnew_; clear hg_ hnew_; (first | rw [← Ny217.out] at ho5 | (simp only [Int.reduceToNat] at ho5; rw [← Ny217.out] at ho5)); have n0_ := Aside0.mk (Kd.R_lower ho5 (below_size (qb_ HB.out))); have n1_ := Aside0.mk (below_step (qb_ HB.out) hb); clear HB; have HO219 := n0_; have HB := n1_; clear n0_ n1_; clear hb ho5; obtain ⟨Ao6, co6, eo6⟩ := Kd.R_slice HO219.out; subst eo6; have p220 : 0 ≤ (a0 : Int) := qd_; have q220 : a0 < (y217.length : Int) := qd_; obtain ⟨ad220, e220, hx220_0⟩ := Kd.at_string (Kd.R_reads' HO219.out).2.2 a0 p220 q220; cases e220; replace p220 := eq_true p220; replace q220 := eq_true q220))
   go_ret
   exact ⟨qw_, qb_ HB.out⟩
  ·rw [if_neg c3] at H
   exact absurd H (by simp)
 ·rw [if_neg c2] at H
  exact absurd H (by simp)

/-! ### letterboxref01_Lower: function 55 -/
def letterboxref01_Lower.l0 : Nat → Int → ByteArray → ByteArray → Int → Option (Int)
 | 0, _, _, _, _ => none
 | k + 1, x0, x3, x4, x5 => if x5 < (x3.size : Int) then (if 0 ≤ x5 then (if (bt x3 x5) = x0 then (if x5 < (x4.size : Int) then (some (bt x4 x5)) else (none)) else (letterboxref01_Lower.l0 k x0 x3 x4 (wrap64 (x5 + 1)))) else (none)) else (some x0)
def letterboxref01_Lower.f (k : Nat) (a0 : Int) : Option (Int) := letterboxref01_Lower.l0 k a0 (⟨#[65, 66, 67, 68, 69, 70, 71, 72, 73, 74, 75, 76, 77, 78, 79, 80, 81, 82, 83, 84, 85, 86, 87, 88, 89, 90]⟩ : ByteArray) (⟨#[97, 98, 99, 100, 101, 102, 103, 104, 105, 106, 107, 108, 109, 110, 111, 112, 113, 114, 115, 116, 117, 118, 119, 120, 121, 122]⟩ : ByteArray) 0
theorem letterboxref01_Lower.mono_l : ∀ k, (∀ y0 y1 y2 y3, LeO (letterboxref01_Lower.l0 k y0 y1 y2 y3) (letterboxref01_Lower.l0 (k + 1) y0 y1 y2 y3))
 | 0 => fun _ _ _ _ r h => by simp [letterboxref01_Lower.l0] at h
 | k + 1 => by
  have ih0 := letterboxref01_Lower.mono_l k
  ·intro y0 y1 y2 y3
   unfold letterboxref01_Lower.l0
   repeat' first
   | (with_reducible exact ih0 _ _ _ _)
   | (with_reducible exact LeO.refl _)
   | (with_reducible exact LeO.none _)
   | (with_reducible refine LeO.ite ?_ ?_)
   | (with_reducible refine LeO.bind ?_ (fun _ => ?_))
   | exact ih0 _ _ _ _
   | exact LeO.none _
   | refine LeO.ite ?_ ?_
   | refine LeO.bind ?_ (fun _ => ?_)
theorem letterboxref01_Lower.mono : ∀ a0 k, LeO (letterboxref01_Lower.f k a0) (letterboxref01_Lower.f (k + 1) a0) := by
 intro a0 k
 have ih0 := letterboxref01_Lower.mono_l k
 unfold letterboxref01_Lower.f
 repeat' first
   | (with_reducible exact ih0 _ _ _ _)
   | (with_reducible exact LeO.refl _)
   | (with_reducible exact LeO.none _)
   | (with_reducible refine LeO.ite ?_ ?_)
   | (with_reducible refine LeO.bind ?_ (fun _ => ?_))
   | exact ih0 _ _ _ _
   | exact LeO.none _
   | refine LeO.ite ?_ ?_
   | refine LeO.bind ?_ (fun _ => ?_)
set_option maxHeartbeats 8000000 in
set_option maxRecDepth 100000 in
theorem letterboxref01_Lower.calls (k : Nat) (a0 : Int) (r : Int) (w : World) (h : letterboxref01_Lower.f k a0 = some r) :
  Calls Tryd.prog 55 #[.int .u8 a0] w fun e w' => e = .returned (.int .u8 r) ∧ Drawn0 w w' := by
 have H : (letterboxref01_Lower.l0 k a0 (⟨#[65, 66, 67, 68, 69, 70, 71, 72, 73, 74, 75, 76, 77, 78, 79, 80, 81, 82, 83, 84, 85, 86, 87, 88, 89, 90]⟩ : ByteArray) (⟨#[97, 98, 99, 100, 101, 102, 103, 104, 105, 106, 107, 108, 109, 110, 111, 112, 113, 114, 115, 116, 117, 118, 119, 120, 121, 122]⟩ : ByteArray) 0) = some r := h
 clear h
 have H' := Aside0.mk H
 clear H
 go_enter Tryd.func55, Tryd.ntmps55
 go_wp2
 go_loopg [5] k (fun kq v5 w' => ∃ (x5_1 : Int), v5 = .int .i64 x5_1 ∧ Aside0 (letterboxref01_Lower.l0 kq a0 (⟨#[65, 66, 67, 68, 69, 70, 71, 72, 73, 74, 75, 76, 77, 78, 79, 80, 81, 82, 83, 84, 85, 86, 87, 88, 89, 90]⟩ : ByteArray) (⟨#[97, 98, 99, 100, 101, 102, 103, 104, 105, 106, 107, 108, 109, 110, 111, 112, 113, 114, 115, 116, 117, 118, 119, 120, 121, 122]⟩ : ByteArray) x5_1 = some r) ∧ Aside0 (kq ≤ k) ∧ Drawn0 w w')
 case atStart => exact ⟨(0), qr_, H', ⟨Nat.le_refl _⟩, by repeat (first | exact Drawn0.refl _ | apply Drawn0.step)⟩
 case round =>
  clear H'
  obtain ⟨x5_1, rfl, HA, HK1, ⟨m1, rfl⟩⟩ := hrel
  cases gk with
  | zero => exact absurd HA.out (by simp [letterboxref01_Lower.l0])
  | succ k1 =>
   have H := HA.out
   clear HA
   simp only [letterboxref01_Lower.l0] at H
   by_cases c2 : x5_1 < ((⟨#[65, 66, 67, 68, 69, 70, 71, 72, 73, 74, 75, 76, 77, 78, 79, 80, 81, 82, 83, 84, 85, 86, 87, 88, 89, 90]⟩ : ByteArray).size : Int)
   ·rw [if_pos c2] at H
    have c2b0 : decide (x5_1 < ((⟨#[65, 66, 67, 68, 69, 70, 71, 72, 73, 74, 75, 76, 77, 78, 79, 80, 81, 82, 83, 84, 85, 86, 87, 88, 89, 90]⟩ : ByteArray).size : Int)) = true := decide_eq_true c2
    have c2b0z : decide (x5_1 < 26) = true := c2b0
    clear c2
    by_cases c3 : 0 ≤ x5_1
    ·rw [if_pos c3] at H
     have c3b0 : decide (0 ≤ x5_1) = true := decide_eq_true c3
     clear c3
     by_cases c5 : (bt (⟨#[65, 66, 67, 68, 69, 70, 71, 72, 73, 74, 75, 76, 77, 78, 79, 80, 81, 82, 83, 84, 85, 86, 87, 88, 89, 90]⟩ : ByteArray) x5_1) = a0
     ·rw [if_pos c5] at H
      have c5b0 : ((bt (⟨#[65, 66, 67, 68, 69, 70, 71, 72, 73, 74, 75, 76, 77, 78, 79, 80, 81, 82, 83, 84, 85, 86, 87, 88, 89, 90]⟩ : ByteArray) x5_1) == a0) = true := beq_iff_eq.mpr c5
      have c5b1 : ((bt (⟨#[65, 66, 67, 68, 69, 70, 71, 72, 73, 74, 75, 76, 77, 78, 79, 80, 81, 82, 83, 84, 85, 86, 87, 88, 89, 90]⟩ : ByteArray) x5_1) != a0) = false := bne_eq_false_iff_eq.mpr c5
      clear c5
      by_cases c6 : x5_1 < ((⟨#[97, 98, 99, 100, 101, 102, 103, 104, 105, 106, 107, 108, 109, 110, 111, 112, 113, 114, 115, 116, 117, 118, 119, 120, 121, 122]⟩ : ByteArray).size : Int)
      ·rw [if_pos c6] at H
       have c6b0 : decide (x5_1 < ((⟨#[97, 98, 99, 100, 101, 102, 103, 104, 105, 106, 107, 108, 109, 110, 111, 112, 113, 114, 115, 116, 117, 118, 119, 120, 121, 122]⟩ : ByteArray).size : Int)) = true := decide_eq_true c6
       have c6b0z : decide (x5_1 < 26) = true := c6b0
       clear c6
       obtain rfl := Option.some.inj H
       have p4 : 0 ≤ (x5_1 : Int) := qd_
       have q4 : x5_1 < (26 : Int) := qd_
       have hx4 := bt_at (⟨#[65, 66, 67, 68, 69, 70, 71, 72, 73, 74, 75, 76, 77, 78, 79, 80, 81, 82, 83, 84, 85, 86, 87, 88, 89, 90]⟩ : ByteArray) x5_1
       replace p4 := eq_true p4
       replace q4 := eq_true q4
       have p7 : 0 ≤ (x5_1 : Int) := qd_
       have q7 : x5_1 < (26 : Int) := qd_
       have hx7 := bt_at (⟨#[97, 98, 99, 100, 101, 102, 103, 104, 105, 106, 107, 108, 109, 110, 111, 112, 113, 114, 115, 116, 117, 118, 119, 120, 121, 122]⟩ : ByteArray) x5_1
       replace p7 := eq_true p7
       replace q7 := eq_true q7
       go_wp2
       go_ret
       exact ⟨by first | rfl | (simp; done) | (simp [*]; done), by repeat (first | exact Drawn0.refl _ | apply Drawn0.step)⟩
      ·rw [if_neg c6] at H
       exact absurd H (by simp)
     ·rw [if_neg c5] at H
      have c5b0 : ((bt (⟨#[65, 66, 67, 68, 69, 70, 71, 72, 73, 74, 75, 76, 77, 78, 79, 80, 81, 82, 83, 84, 85, 86, 87, 88, 89, 90]⟩ : ByteArray) x5_1) == a0) = false := beq_eq_false_iff_ne.mpr c5
      have c5b1 : ((bt (⟨#[65, 66, 67, 68, 69, 70, 71, 72, 73, 74, 75, 76, 77, 78, 79, 80, 81, 82, 83, 84, 85, 86, 87, 88, 89, 90]⟩ : ByteArray) x5_1) != a0) = true := bne_iff_ne.mpr c5
      have H' := Aside0.mk H
      clear H
      have p4 : 0 ≤ (x5_1 : Int) := qd_
      have q4 : x5_1 < (26 : Int) := qd_
      have hx4 := bt_at (⟨#[65, 66, 67, 68, 69, 70, 71, 72, 73, 74, 75, 76, 77, 78, 79, 80, 81, 82, 83, 84, 85, 86, 87, 88, 89, 90]⟩ : ByteArray) x5_1
      replace p4 := eq_true p4
      replace q4 := eq_true q4
      go_wp2
      go_roundg k1
      case measure => have := HK1.out; omega
      case rel => exact ⟨(wrap64 (x5_1 + 1)), qr_, H', ⟨by have := HK1.out; omega⟩, by repeat (first | exact Drawn0.refl _ | apply Drawn0.step)⟩
    ·rw [if_neg c3] at H
     exact absurd H (by simp)
   ·rw [if_neg c2] at H
    have c2b0 : decide (x5_1 < ((⟨#[65, 66, 67, 68, 69, 70, 71, 72, 73, 74, 75, 76, 77, 78, 79, 80, 81, 82, 83, 84, 85, 86, 87, 88, 89, 90]⟩ : ByteArray).size : Int)) = false := decide_eq_false c2
    have c2b0z : decide (x5_1 < 26) = false := c2b0
    clear c2
    obtain rfl := Option.some.inj H
    go_wp2
    go_ret
    exact ⟨by first | rfl | (simp; done) | (simp [*]; done), by repeat (first | exact Drawn0.refl _ | apply Drawn0.step)⟩

/-! ### letterboxref01_Fold: function 44 -/
def letterboxref01_Fold.l0 : Nat → ByteArray → List Int → Int → Option (ByteArray)
 | 0, _, _, _ => none
 | k + 1, x0, x3, x4 => if x4 < (x0.size : Int) then (if 0 ≤ x4 then ((letterboxref01_Lower.f k (bt x0 x4)).bind fun t221 => (if x3.length < 140737488355328 then (letterboxref01_Fold.l0 k x0 (x3 ++ [t221]) (wrap64 (x4 + 1))) else (none))) else (none)) else (some (strOfNums x3))
def letterboxref01_Fold.f (k : Nat) (a0 : ByteArray) : Option (ByteArray) := letterboxref01_Fold.l0 k a0 ([] : List Int) 0
theorem letterboxref01_Fold.mono_l : ∀ k, (∀ y0 y1 y2, LeO (letterboxref01_Fold.l0 k y0 y1 y2) (letterboxref01_Fold.l0 (k + 1) y0 y1 y2))
 | 0 => fun _ _ _ r h => by simp [letterboxref01_Fold.l0] at h
 | k + 1 => by
  have ih0 := letterboxref01_Fold.mono_l k
  ·intro y0 y1 y2
   unfold letterboxref01_Fold.l0
   repeat' first
   | (with_reducible exact ih0 _ _ _)
   | (with_reducible exact letterboxref01_Lower.mono _ _)
   | (with_reducible exact LeO.refl _)
   | (with_reducible exact LeO.none _)
   | (with_reducible refine LeO.ite ?_ ?_)
   | (with_reducible refine LeO.bind ?_ (fun _ => ?_))
   | exact ih0 _ _ _
   | exact letterboxref01_Lower.mono _ _
   | exact LeO.none _
   | refine LeO.ite ?_ ?_
   | refine LeO.bind ?_ (fun _ => ?_)
theorem letterboxref01_Fold.mono : ∀ a0 k, LeO (letterboxref01_Fold.f k a0) (letterboxref01_Fold.f (k + 1) a0) := by
 intro a0 k
 have ih0 := letterboxref01_Fold.mono_l k
 unfold letterboxref01_Fold.f
 repeat' first
   | (with_reducible exact ih0 _ _ _)
   | (with_reducible exact letterboxref01_Lower.mono _ _)
   | (with_reducible exact LeO.refl _)
   | (with_reducible exact LeO.none _)
   | (with_reducible refine LeO.ite ?_ ?_)
   | (with_reducible refine LeO.bind ?_ (fun _ => ?_))
   | exact ih0 _ _ _
   | exact letterboxref01_Lower.mono _ _
   | exact LeO.none _
   | refine LeO.ite ?_ ?_
   | refine LeO.bind ?_ (fun _ => ?_)
set_option maxHeartbeats 8000000 in
set_option maxRecDepth 100000 in
theorem letterboxref01_Fold.calls (k : Nat) (a0 : ByteArray) (r : ByteArray) (w : World) (h : letterboxref01_Fold.f k a0 = some r) :
  Calls Tryd.prog 44 #[.string a0] w fun e w' => e = .returned (.string r) ∧ Below w.heap.size w w' := by
 have HB := Aside0.mk (Below.refl w.heap.size w)
 have H : (letterboxref01_Fold.l0 k a0 ([] : List Int) 0) = some r := h
 clear h
 have H' := Aside0.mk H
 clear H
 go_enter Tryd.func44, Tryd.ntmps44
 go_wp2
 go_loopg [3, 4] k (fun kq v3 v4 w' => ∃ (x3_1 : List Int) (x4_1 : Int), v4 = .int .i64 x4_1 ∧ Aside0 (letterboxref01_Fold.l0 kq a0 x3_1 x4_1 = some r) ∧ Aside0 (kq ≤ k) ∧ Aside0 (Kd.R (Kd.int .u8) 5 w' w.heap.size (fun _ => True) v3 x3_1) ∧ Aside0 (Below w.heap.size w w'))
 case atStart => exact ⟨(([] : List Int)), (0), qr_, H', ⟨Nat.le_refl _⟩, ⟨qn_⟩, ⟨qb_ HB.out⟩⟩
 case round =>
  clear H'
  obtain ⟨x3_1, x4_1, rfl, HA, HK1, HO_3, HB⟩ := hrel
  cases gk with
  | zero => exact absurd HA.out (by simp [letterboxref01_Fold.l0])
  | succ k1 =>
   have H := HA.out
   clear HA
   simp only [letterboxref01_Fold.l0] at H
   by_cases c2 : x4_1 < (a0.size : Int)
   ·rw [if_pos c2] at H
    have c2b0 : decide (x4_1 < (a0.size : Int)) = true := decide_eq_true c2
    clear c2
    by_cases c3 : 0 ≤ x4_1
    ·rw [if_pos c3] at H
     have c3b0 : decide (0 ≤ x4_1) = true := decide_eq_true c3
     clear c3
     replace H := Option.bind_eq_some_iff.mp H
     obtain ⟨t221, A50, H⟩ := H
     replace H : (if x3_1.length < 140737488355328 then (letterboxref01_Fold.l0 k1 a0 (x3_1 ++ [t221]) (wrap64 (x4_1 + 1))) else (none)) = some r := H
     have A5 := Aside0.mk A50
     clear A50
     by_cases c6 : x3_1.length < 140737488355328
     ·rw [if_pos c6] at H
      have LMc6 := Aside0.mk c6
      clear c6
      obtain ⟨y222, hy222⟩ : ∃ y_ : List Int, y_ = (x3_1 ++ [t221]) := ⟨_, rfl⟩
      replace H : (letterboxref01_Fold.l0 k1 a0 y222 (wrap64 (x4_1 + 1))) = some r := by first | (rw [hy222]; with_reducible exact H) | (have H2_ := (Option.bind_some _ _).symm.trans H; rw [hy222]; with_reducible exact H2_) | (have H2_ := (Option.bind_some _ _).symm.trans H; with_reducible exact H2_) | with_reducible exact H | (rw [hy222]; exact H) | exact H
      have Ny222 := Aside0.mk hy222
      clear hy222
      have H' := Aside0.mk H
      clear H
      have p4 : 0 ≤ (x4_1 : Int) := qd_
      have q4 : x4_1 < (a0.size : Int) := qd_
      have hx4 := bt_at a0 x4_1
      replace p4 := eq_true p4
      replace q4 := eq_true q4
      go_wp2_with (first | ((with_reducible refine gate_callee (f := 55) rfl ?_); refine goesL_ (some 15) rfl rfl Tryd.func55 (by kernel_rfl) rfl #[.int .u8 (bt a0 x4_1)] rfl qa_ ?_; (with_reducible refine (letterboxref01_Lower.calls k1 (bt a0 x4_1) t221 _ A5.out).mono ?_); rintro e w' ⟨rfl, ⟨nd, rfl⟩⟩; refine ⟨_, rfl, ?_⟩) | ((with_reducible refine gate_builtin (b := .append) (xs := #[.tmp 11, .tmp 16]) rfl ?_); at_builtin; refine Kd.R_append (Kd.int .u8) (w0 := w) w.heap.size rfl (.tmp 11) (.tmp 16) 42 5 (.int .u8 0) 1 rfl Tryd.underlying42 info5 rfl (by decide) (by omega) u3 x3_1 t221 [.int .u8 t221] (fun _ => True) (fun _ => False) rfl rfl ?aP (fun _ hk => hk.elim) ?aF ?aO ?aB ?aS ?aL ?_; (case aP => exact rfl); (case aB => exact (qb_ HB.out)); (case aF => exact (fun _ _ => trivial)); (case aO => exact (ql_ HO_3.out)); (case aS => exact (below_size (qb_ HB.out))); (case aL => have := LMc6.out; omega); intro v223 w7 ho hb hg hat; rw [← Ny222.out] at ho; have n0_ := Aside0.mk (hb); have n1_ := Aside0.mk (ho); clear HB; clear HO_3; have HB := n0_; have HO224 := n1_; clear n0_ n1_; clear ho hb hg hat))
      go_roundg k1
      case measure => have := HK1.out; omega
      case rel => exact ⟨(y222), (wrap64 (x4_1 + 1)), qr_, H', ⟨by have := HK1.out; omega⟩, ⟨ql_ HO224.out⟩, ⟨qb_ HB.out⟩⟩
     ·rw [if_neg c6] at H
      exact absurd H (by simp)
    ·rw [if_neg c3] at H
     exact absurd H (by simp)
   ·rw [if_neg c2] at H
    have c2b0 : decide (x4_1 < (a0.size : Int)) = false := decide_eq_false c2
    clear c2
    obtain rfl := Option.some.inj H
    have hcv8 := fun n_ : Nat => own_string (P := Tryd.prog) Tryd.underlying42 Tryd.underlying5 Tryd.underlying9 (Kd.own_of_R (Kd.R_drewN HO_3.out n_))
    have hcv9 := fun m_ n_ : Nat => own_string (P := Tryd.prog) Tryd.underlying42 Tryd.underlying5 Tryd.underlying9 (Kd.own_of_R (Kd.R_drewN (Kd.R_drewN HO_3.out m_) n_))
    have hcv10 := own_string (P := Tryd.prog) Tryd.underlying42 Tryd.underlying5 Tryd.underlying9 (Kd.own_of_R HO_3.out)
    (try have hcv10d := fun n_ : Nat => own_string (P := Tryd.prog) Tryd.underlying42 Tryd.underlying5 Tryd.underlying9 (Kd.own_of_R (Kd.R_drewN HO_3.out n_)))
    go_wp2
    go_ret
    exact ⟨qw_, qb_ HB.out⟩

end Go.Proofs.YtbjbagocnnffaaaDoor.P
