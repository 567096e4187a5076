-- Written by a program of this session (wip/tools/mk.sh) for this claim: it runs the kit's print with contracts of our own. Lean checks it.
import Derived.Test.YtmdhggiffdkmfaaPx0
import Derived.Test.YtmdhggiffdkmfaaZStr
import Derived.Test.YtmdhggiffdkmfaaPx1
namespace Go.Proofs.Ytmdhggiffdkmfaa.P
open Go.RowKit Go.Proofs.YtmdhggiffdkmfaaW.PrintWords Go.Proofs.YtmdhggiffdkmfaaW.PrintLast Go.Proofs.YtmdhggiffdkmfaaW.PrintMore
attribute [-simp] Int.tmod_tmod_of_dvd
attribute [local go_sem] max2_int min2_int max_two min_two max_three min_three max_four min_four   -- for this text's walks alone
set_option linter.unusedVariables false
set_option linter.unusedSimpArgs false

/-! ### chars_Number: function 49 -/
mutual
def chars_Number.j0 : Nat → ByteArray → Bool → Option (Int × Bool)
  | 0, _, _ => none
  | k + 1, x0, x23 => if x23 = true then (some (0, false)) else (chars_Number.l0 k x0 0 (x0.size : Int) 0)
def chars_Number.l0 : Nat → ByteArray → Int → Int → Int → Option (Int × Bool)
  | 0, _, _, _, _ => none
  | k + 1, x0, x4, x25, x26 => if x26 < x25 then (if 0 ≤ x26 then (if x26 < (x0.size : Int) then (if (bt x0 x26) < 48 then (some (0, false)) else (if (bt x0 x26) > 57 then (some (0, false)) else (chars_Number.l0 k x0 (wrap64 ((wrap64 (10 * x4)) + (((bt x0 x26) - 48) % 256))) x25 (wrap64 (x26 + 1))))) else (none)) else (none)) else (if x4 > 4294967295 then (some (0, false)) else (some (x4, true)))
end
def chars_Number.f (k : Nat) (a0 : ByteArray) : Option (Int × Bool) := if (a0.size : Int) < 1 then (chars_Number.j0 k a0 true) else (if (a0.size : Int) > 10 then (chars_Number.j0 k a0 true) else (if (a0.size : Int) > 1 then (if 0 < (a0.size : Int) then (chars_Number.j0 k a0 ((bt a0 0) == 48)) else (none)) else (chars_Number.j0 k a0 false)))
theorem chars_Number.mono_l : ∀ k, (∀ y0 y1, LeO (chars_Number.j0 k y0 y1) (chars_Number.j0 (k + 1) y0 y1)) ∧ (∀ y0 y1 y2 y3, LeO (chars_Number.l0 k y0 y1 y2 y3) (chars_Number.l0 (k + 1) y0 y1 y2 y3))
  | 0 => ⟨fun _ _ r h => by simp [chars_Number.j0] at h, fun _ _ _ _ r h => by simp [chars_Number.l0] at h⟩
  | k + 1 => by
    obtain ⟨ih0, ih1⟩ := chars_Number.mono_l k
    refine ⟨?_, ?_⟩
    · intro y0 y1
      unfold chars_Number.j0
      repeat' first
      | (with_reducible exact ih0 _ _)
      | (with_reducible exact ih1 _ _ _ _)
      | (with_reducible exact LeO.refl _)
      | (with_reducible exact LeO.none _)
      | (with_reducible refine LeO.ite ?_ ?_)
      | (with_reducible refine LeO.bind ?_ (fun _ => ?_))
      | exact ih0 _ _
      | exact ih1 _ _ _ _
      | exact LeO.none _
      | refine LeO.ite ?_ ?_
      | refine LeO.bind ?_ (fun _ => ?_)
    · intro y0 y1 y2 y3
      unfold chars_Number.l0
      repeat' first
      | (with_reducible exact ih0 _ _)
      | (with_reducible exact ih1 _ _ _ _)
      | (with_reducible exact LeO.refl _)
      | (with_reducible exact LeO.none _)
      | (with_reducible refine LeO.ite ?_ ?_)
      | (with_reducible refine LeO.bind ?_ (fun _ => ?_))
      | exact ih0 _ _
      | exact ih1 _ _ _ _
      | exact LeO.none _
      | refine LeO.ite ?_ ?_
      | refine LeO.bind ?_ (fun _ => ?_)
theorem chars_Number.mono : ∀ a0 k, LeO (chars_Number.f k a0) (chars_Number.f (k + 1) a0) := by
  intro a0 k
  obtain ⟨ih0, ih1⟩ := chars_Number.mono_l k
  unfold chars_Number.f
  repeat' first
      | (with_reducible exact ih0 _ _)
      | (with_reducible exact ih1 _ _ _ _)
      | (with_reducible exact LeO.refl _)
      | (with_reducible exact LeO.none _)
      | (with_reducible refine LeO.ite ?_ ?_)
      | (with_reducible refine LeO.bind ?_ (fun _ => ?_))
      | exact ih0 _ _
      | exact ih1 _ _ _ _
      | exact LeO.none _
      | refine LeO.ite ?_ ?_
      | refine LeO.bind ?_ (fun _ => ?_)
set_option maxHeartbeats 8000000 in
set_option maxRecDepth 100000 in
theorem chars_Number.calls (k : Nat) (a0 : ByteArray) (r1 : Int) (r2 : Bool) (w : World) (h : chars_Number.f k a0 = some (r1, r2)) :
    Calls Try.prog 49 #[.string a0] w fun e w' => e = .returned (.tuple #[.int .i64 r1, .bool r2]) ∧ Drawn0 w w' := by
  have H : (if (a0.size : Int) < 1 then (chars_Number.j0 k a0 true) else (if (a0.size : Int) > 10 then (chars_Number.j0 k a0 true) else (if (a0.size : Int) > 1 then (if 0 < (a0.size : Int) then (chars_Number.j0 k a0 ((bt a0 0) == 48)) else (none)) else (chars_Number.j0 k a0 false)))) = some (r1, r2) := h
  clear h
  have HC2 := Aside0.mk H
  clear H
  go_enter Try.func49, Try.ntmps49
  go_upto_region 1 with (fail)
  go_cut [23] (fun v23 wc => ∃ (kq : Nat) (x23_1 : Bool), v23 = .bool x23_1 ∧ Aside0 (chars_Number.j0 kq a0 x23_1 = some (r1, r2)) ∧ Aside0 (kq ≤ k) ∧ Drawn0 w wc)
  case first =>
    have H := HC2.out
    clear HC2
    by_cases c3 : (a0.size : Int) < 1
    · rw [if_pos c3] at H
      have c3b0 : decide ((a0.size : Int) < 1) = true := decide_eq_true c3
      have c3b1 : decide (a0.size < 1) = true := decide_eq_true (by omega)
      clear c3
      (first | rw [c3b0] | (simp only [i64_w, i32_w]; rw [c3b0]) | skip)
      have H' := Aside0.mk H
      clear H
      go_wp2
      go_meet
      case rel => exact ⟨_, (true), (by first | rfl | (simp; done) | (simp [*]; done)), H', ⟨by first | omega | exact Nat.le_refl _⟩, by repeat (first | exact Drawn0.refl _ | apply Drawn0.step)⟩
    · rw [if_neg c3] at H
      have c3b0 : decide ((a0.size : Int) < 1) = false := decide_eq_false c3
      have c3b1 : decide (a0.size < 1) = false := decide_eq_false (by omega)
      clear c3
      (first | rw [c3b0] | (simp only [i64_w, i32_w]; rw [c3b0]) | skip)
      by_cases c4 : (a0.size : Int) > 10
      · rw [if_pos c4] at H
        have c4b0 : decide (10 < (a0.size : Int)) = true := decide_eq_true c4
        have c4b1 : decide (10 < a0.size) = true := decide_eq_true (by omega)
        clear c4
        have H' := Aside0.mk H
        clear H
        go_wp2
        go_meet
        case rel => exact ⟨_, (true), (by first | rfl | (simp; done) | (simp [*]; done)), H', ⟨by first | omega | exact Nat.le_refl _⟩, by repeat (first | exact Drawn0.refl _ | apply Drawn0.step)⟩
      · rw [if_neg c4] at H
        have c4b0 : decide (10 < (a0.size : Int)) = false := decide_eq_false c4
        have c4b1 : decide (10 < a0.size) = false := decide_eq_false (by omega)
        clear c4
        by_cases c5 : (a0.size : Int) > 1
        · rw [if_pos c5] at H
          have c5b0 : decide (1 < (a0.size : Int)) = true := decide_eq_true c5
          have c5b1 : decide (1 < a0.size) = true := decide_eq_true (by omega)
          clear c5
          by_cases c6 : 0 < (a0.size : Int)
          · rw [if_pos c6] at H
            have c6b0 : decide (0 < (a0.size : Int)) = true := decide_eq_true c6
            have c6b1 : decide (0 < a0.size) = true := decide_eq_true (by omega)
            clear c6
            have H' := Aside0.mk H
            clear H
            have p7 : 0 ≤ (0 : Int) := (by omega)
            have q7 : 0 < a0.size := (by have : (0 : Int) < (a0.size : Int) := of_decide_eq_true (by first | (with_reducible assumption) | assumption); omega)
            have hx7 : ∀ h : 0 < a0.size, ((a0[0]'h).toNat : Int) = bt a0 0 := bt_at a0 0
            clear p7
            have qi7 : (0 < (a0.size : Int)) = True := eq_true (of_decide_eq_true (by first | (with_reducible assumption) | assumption))
            replace q7 := eq_true q7
            go_wp2
            go_meet
            case rel => exact ⟨_, (((bt a0 0) == 48)), (by first | rfl | (simp; done) | (simp [*]; done)), H', ⟨by first | omega | exact Nat.le_refl _⟩, by repeat (first | exact Drawn0.refl _ | apply Drawn0.step)⟩
          · rw [if_neg c6] at H
            exact absurd H (by simp)
        · rw [if_neg c5] at H
          have c5b0 : decide (1 < (a0.size : Int)) = false := decide_eq_false c5
          have c5b1 : decide (1 < a0.size) = false := decide_eq_false (by omega)
          clear c5
          have H' := Aside0.mk H
          clear H
          go_wp2
          go_meet
          case rel => exact ⟨_, (false), (by first | rfl | (simp; done) | (simp [*]; done)), H', ⟨by first | omega | exact Nat.le_refl _⟩, by repeat (first | exact Drawn0.refl _ | apply Drawn0.step)⟩
  case rest =>
    clear HC2
    try clear p2
    try clear c3
    try clear c3b0
    try clear c3b1
    try clear c4
    try clear c4b0
    try clear c4b1
    try clear c5
    try clear c5b0
    try clear c5b1
    try clear c6
    try clear c6b0
    try clear c6b1
    try clear p7
    try clear q7
    try clear hx7
    try clear qi7
    try clear p7
    try clear q7
    obtain ⟨kq, x23_1, rfl, HA, HJ1, ⟨mc1, rfl⟩⟩ := hcut
    cases kq with
    | zero => exact absurd HA.out (by simp [chars_Number.j0])
    | succ kj1 =>
      have H := HA.out
      clear HA
      simp only [chars_Number.j0] at H
      by_cases c8 : x23_1 = true
      · subst c8
        have H1 : (some (0, false)) = some (r1, r2) := by rw [if_pos rfl] at H; exact H
        clear H
        have H := H1
        clear H1
        simp only [Option.some.injEq, Prod.mk.injEq] at H
        obtain ⟨rfl, rfl⟩ := H
        go_wp2
        go_ret2
        exact ⟨by first | rfl | (simp; done) | (simp [*]; done), by repeat (first | exact Drawn0.refl _ | apply Drawn0.step)⟩
      · replace c8 := Bool.eq_false_iff.mpr c8
        subst c8
        have H1 : (chars_Number.l0 kj1 a0 0 (a0.size : Int) 0) = some (r1, r2) := by rw [if_neg (show ¬ (false = true) by decide)] at H; exact H
        clear H
        have H := H1
        clear H1
        have H' := Aside0.mk H
        clear H
        go_wp2
        go_loopg [4, 26] kj1 (fun kq v4 v26 w' => ∃ (x4_2 : Int) (x26_2 : Int), v4 = .int .i64 x4_2 ∧ v26 = .int .i64 x26_2 ∧ Aside0 (chars_Number.l0 kq a0 x4_2 (a0.size : Int) x26_2 = some (r1, r2)) ∧ Aside0 (kq ≤ kj1) ∧ Drawn0 w w')
        case atStart => exact ⟨(0), (0), (by first | rfl | (simp; done) | (simp [*]; done)), (by first | rfl | (simp; done) | (simp [*]; done)), H', ⟨Nat.le_refl _⟩, by repeat (first | exact Drawn0.refl _ | apply Drawn0.step)⟩
        case round =>
          clear H'
          try clear c1
          try clear p2
          try clear c3
          try clear c3b0
          try clear c3b1
          try clear c4
          try clear c4b0
          try clear c4b1
          try clear c5
          try clear c5b0
          try clear c5b1
          try clear c6
          try clear c6b0
          try clear c6b1
          try clear p7
          try clear q7
          try clear hx7
          try clear qi7
          try clear c8
          try clear p2
          try clear p7
          try clear q7
          obtain ⟨x4_2, x26_2, rfl, rfl, HA, HK2, ⟨m2, rfl⟩⟩ := hrel
          cases gk with
          | zero => exact absurd HA.out (by simp [chars_Number.l0])
          | succ k2 =>
            have H := HA.out
            clear HA
            simp only [chars_Number.l0] at H
            by_cases c9 : x26_2 < (a0.size : Int)
            · rw [if_pos c9] at H
              have c9b0 : decide (x26_2 < (a0.size : Int)) = true := decide_eq_true c9
              clear c9
              by_cases c10 : 0 ≤ x26_2
              · rw [if_pos c10] at H
                have c10b0 : decide (0 ≤ x26_2) = true := decide_eq_true c10
                clear c10
                by_cases c11 : x26_2 < (a0.size : Int)
                · rw [if_pos c11] at H
                  have c11b0 : decide (x26_2 < (a0.size : Int)) = true := decide_eq_true c11
                  clear c11
                  by_cases c13 : (bt a0 x26_2) < 48
                  · rw [if_pos c13] at H
                    have c13b0 : decide ((bt a0 x26_2) < 48) = true := decide_eq_true c13
                    clear c13
                    simp only [Option.some.injEq, Prod.mk.injEq] at H
                    obtain ⟨rfl, rfl⟩ := H
                    have p12 : 0 ≤ (x26_2 : Int) := of_decide_eq_true (by first | (with_reducible assumption) | assumption)
                    have q12 : x26_2 < (a0.size : Int) := of_decide_eq_true (by first | (with_reducible assumption) | assumption)
                    have hx12 := bt_at a0 x26_2
                    replace p12 := eq_true p12
                    replace q12 := eq_true q12
                    go_wp2
                    go_ret2
                    exact ⟨by first | rfl | (simp; done) | (simp [*]; done), by repeat (first | exact Drawn0.refl _ | apply Drawn0.step)⟩
                  · rw [if_neg c13] at H
                    have c13b0 : decide ((bt a0 x26_2) < 48) = false := decide_eq_false c13
                    clear c13
                    by_cases c15 : (bt a0 x26_2) > 57
                    · rw [if_pos c15] at H
                      have c15b0 : decide (57 < (bt a0 x26_2)) = true := decide_eq_true c15
                      clear c15
                      simp only [Option.some.injEq, Prod.mk.injEq] at H
                      obtain ⟨rfl, rfl⟩ := H
                      have p12 : 0 ≤ (x26_2 : Int) := of_decide_eq_true (by first | (with_reducible assumption) | assumption)
                      have q12 : x26_2 < (a0.size : Int) := of_decide_eq_true (by first | (with_reducible assumption) | assumption)
                      have hx12 := bt_at a0 x26_2
                      replace p12 := eq_true p12
                      replace q12 := eq_true q12
                      have p14 : 0 ≤ (x26_2 : Int) := of_decide_eq_true (by first | (with_reducible assumption) | assumption)
                      have q14 : x26_2 < (a0.size : Int) := of_decide_eq_true (by first | (with_reducible assumption) | assumption)
                      have hx14 := bt_at a0 x26_2
                      replace p14 := eq_true p14
                      replace q14 := eq_true q14
                      go_wp2
                      go_ret2
                      exact ⟨by first | rfl | (simp; done) | (simp [*]; done), by repeat (first | exact Drawn0.refl _ | apply Drawn0.step)⟩
                    · rw [if_neg c15] at H
                      have c15b0 : decide (57 < (bt a0 x26_2)) = false := decide_eq_false c15
                      clear c15
                      have H' := Aside0.mk H
                      clear H
                      have p12 : 0 ≤ (x26_2 : Int) := of_decide_eq_true (by first | (with_reducible assumption) | assumption)
                      have q12 : x26_2 < (a0.size : Int) := of_decide_eq_true (by first | (with_reducible assumption) | assumption)
                      have hx12 := bt_at a0 x26_2
                      replace p12 := eq_true p12
                      replace q12 := eq_true q12
                      have p14 : 0 ≤ (x26_2 : Int) := of_decide_eq_true (by first | (with_reducible assumption) | assumption)
                      have q14 : x26_2 < (a0.size : Int) := of_decide_eq_true (by first | (with_reducible assumption) | assumption)
                      have hx14 := bt_at a0 x26_2
                      replace p14 := eq_true p14
                      replace q14 := eq_true q14
                      have p16 : 0 ≤ (x26_2 : Int) := of_decide_eq_true (by first | (with_reducible assumption) | assumption)
                      have q16 : x26_2 < (a0.size : Int) := of_decide_eq_true (by first | (with_reducible assumption) | assumption)
                      have hx16 := bt_at a0 x26_2
                      replace p16 := eq_true p16
                      replace q16 := eq_true q16
                      go_wp2
                      go_roundg k2
                      case measure => have := HJ1.out; have := HK2.out; omega
                      case rel => exact ⟨(wrap64 ((wrap64 (10 * x4_2)) + (((bt a0 x26_2) - 48) % 256))), (wrap64 (x26_2 + 1)), (by first | rfl | (simp; done) | (simp [*]; done)), (by first | rfl | (simp; done) | (simp [*]; done)), H', ⟨by have := HJ1.out; have := HK2.out; omega⟩, by repeat (first | exact Drawn0.refl _ | apply Drawn0.step)⟩
                · rw [if_neg c11] at H
                  exact absurd H (by simp)
              · rw [if_neg c10] at H
                exact absurd H (by simp)
            · rw [if_neg c9] at H
              have c9b0 : decide (x26_2 < (a0.size : Int)) = false := decide_eq_false c9
              clear c9
              by_cases c17 : x4_2 > 4294967295
              · rw [if_pos c17] at H
                have c17b0 : decide (4294967295 < x4_2) = true := decide_eq_true c17
                clear c17
                simp only [Option.some.injEq, Prod.mk.injEq] at H
                obtain ⟨rfl, rfl⟩ := H
                go_wp2
                go_ret2
                exact ⟨by first | rfl | (simp; done) | (simp [*]; done), by repeat (first | exact Drawn0.refl _ | apply Drawn0.step)⟩
              · rw [if_neg c17] at H
                have c17b0 : decide (4294967295 < x4_2) = false := decide_eq_false c17
                clear c17
                simp only [Option.some.injEq, Prod.mk.injEq] at H
                obtain ⟨rfl, rfl⟩ := H
                go_wp2
                go_ret2
                exact ⟨by first | rfl | (simp; done) | (simp [*]; done), by repeat (first | exact Drawn0.refl _ | apply Drawn0.step)⟩

/-! ### wire_head: function 42 -/
def wire_head.j0 : Nat → ByteArray → ByteArray → Bool → Option (Int × Int × Bool)
  | 0, _, _, _ => none
  | k + 1, x0, x5, x19 => if x19 = true then (some (0, 0, false)) else ((strings_IndexByte.f x5 125).bind fun t109 => (if t109 < 0 then (some (0, 0, false)) else (if 1 ≤ t109 then (if t109 ≤ (x5.size : Int) then ((strings_CutSuffix.f (x5.extract 1 (t109 : Int).toNat) (⟨#[43]⟩ : ByteArray)).bind fun bt110 => ((chars_Number.f k bt110.1).bind fun bt112 => (if bt112.2 = true then (some (wrap64 ((wrap64 ((wrap64 ((x0.size : Int) - (x5.size : Int))) + t109)) + 1), bt112.1, !bt110.2)) else (some (0, 0, false))))) else (none)) else (none))))
def wire_head.f (k : Nat) (a0 : ByteArray) : Option (Int × Int × Bool) := (strings_TrimPrefix.f a0 (⟨#[126]⟩ : ByteArray)).bind fun t108 => (if t108.toList = ([] : List UInt8) then (wire_head.j0 k a0 t108 true) else (if 0 < (t108.size : Int) then (wire_head.j0 k a0 t108 ((bt t108 0) != 123)) else (none)))
theorem wire_head.mono_l : ∀ k, (∀ y0 y1 y2, LeO (wire_head.j0 k y0 y1 y2) (wire_head.j0 (k + 1) y0 y1 y2))
  | 0 => fun _ _ _ r h => by simp [wire_head.j0] at h
  | k + 1 => by
    have ih0 := wire_head.mono_l k
    · intro y0 y1 y2
      unfold wire_head.j0
      repeat' first
      | (with_reducible exact ih0 _ _ _)
      | (with_reducible exact chars_Number.mono _ _)
      | (with_reducible exact LeO.refl _)
      | (with_reducible exact LeO.none _)
      | (with_reducible refine LeO.ite ?_ ?_)
      | (with_reducible refine LeO.bind ?_ (fun _ => ?_))
      | exact ih0 _ _ _
      | exact chars_Number.mono _ _
      | exact LeO.none _
      | refine LeO.ite ?_ ?_
      | refine LeO.bind ?_ (fun _ => ?_)
theorem wire_head.mono : ∀ a0 k, LeO (wire_head.f k a0) (wire_head.f (k + 1) a0) := by
  intro a0 k
  have ih0 := wire_head.mono_l k
  unfold wire_head.f
  repeat' first
      | (with_reducible exact ih0 _ _ _)
      | (with_reducible exact chars_Number.mono _ _)
      | (with_reducible exact LeO.refl _)
      | (with_reducible exact LeO.none _)
      | (with_reducible refine LeO.ite ?_ ?_)
      | (with_reducible refine LeO.bind ?_ (fun _ => ?_))
      | exact ih0 _ _ _
      | exact chars_Number.mono _ _
      | exact LeO.none _
      | refine LeO.ite ?_ ?_
      | refine LeO.bind ?_ (fun _ => ?_)
set_option maxHeartbeats 8000000 in
set_option maxRecDepth 100000 in
theorem wire_head.calls (k : Nat) (a0 : ByteArray) (r1 : Int) (r2 : Int) (r3 : Bool) (w : World) (h : wire_head.f k a0 = some (r1, r2, r3)) :
    Calls Try.prog 42 #[.string a0] w fun e w' => e = .returned (.tuple #[.int .i64 r1, .int .i64 r2, .bool r3]) ∧ Drawn0 w w' := by
  have H : ((strings_TrimPrefix.f a0 (⟨#[126]⟩ : ByteArray)).bind fun t108 => (if t108.toList = ([] : List UInt8) then (wire_head.j0 k a0 t108 true) else (if 0 < (t108.size : Int) then (wire_head.j0 k a0 t108 ((bt t108 0) != 123)) else (none)))) = some (r1, r2, r3) := h
  clear h
  replace H := Option.bind_eq_some_iff.mp H
  obtain ⟨t108, A20, H⟩ := H
  replace H : (if t108.toList = ([] : List UInt8) then (wire_head.j0 k a0 t108 true) else (if 0 < (t108.size : Int) then (wire_head.j0 k a0 t108 ((bt t108 0) != 123)) else (none))) = some (r1, r2, r3) := H
  have A2 := Aside0.mk A20
  clear A20
  have HC3 := Aside0.mk H
  clear H
  go_enter Try.func42, Try.ntmps42
  go_upto_region 2 with (first | ((with_reducible refine gate_callee (f := 47) rfl ?_); refine goesL_ (some 12) rfl rfl Try.func47 (by kernel_rfl) rfl #[.string a0, .string (⟨#[126]⟩ : ByteArray)] rfl (by (try simp only [List.map_toArray, List.map_cons, List.map_nil]); first | done | rfl | (simp only [List.length_drop, List.length_take]; rfl)) ?_; (with_reducible refine (strings_TrimPrefix.calls a0 (⟨#[126]⟩ : ByteArray) t108 _ A2.out).mono ?_); rintro e w' ⟨rfl, ⟨nd, rfl⟩⟩; refine ⟨_, rfl, ?_⟩))
  (try simp only [Act.put, List.setIfInBounds_toArray, List.set_cons_zero, List.set_cons_succ])
  go_cut [19] (fun v19 wc => ∃ (kq : Nat) (x19_2 : Bool), v19 = .bool x19_2 ∧ Aside0 (wire_head.j0 kq a0 t108 x19_2 = some (r1, r2, r3)) ∧ Aside0 (kq ≤ k) ∧ Drawn0 w wc)
  case first =>
    have H := HC3.out
    clear HC3
    by_cases c4 : t108.toList = ([] : List UInt8)
    · rw [if_pos c4] at H
      have c4b0 : (t108.toList == ([] : List UInt8)) = true := beq_iff_eq.mpr c4
      have c4b1 : (t108.toList != ([] : List UInt8)) = false := bne_eq_false_iff_eq.mpr c4
      clear c4
      (first | rw [c4b0] | (simp only [i64_w, i32_w]; rw [c4b0]) | skip)
      have H' := Aside0.mk H
      clear H
      go_wp2
      go_meet
      case rel => exact ⟨_, (true), (by first | rfl | (simp; done) | (simp [*]; done)), H', ⟨by first | omega | exact Nat.le_refl _⟩, by repeat (first | exact Drawn0.refl _ | apply Drawn0.step)⟩
    · rw [if_neg c4] at H
      have c4b0 : (t108.toList == ([] : List UInt8)) = false := beq_eq_false_iff_ne.mpr c4
      have c4b1 : (t108.toList != ([] : List UInt8)) = true := bne_iff_ne.mpr c4
      (first | rw [c4b0] | (simp only [i64_w, i32_w]; rw [c4b0]) | skip)
      by_cases c5 : 0 < (t108.size : Int)
      · rw [if_pos c5] at H
        have c5b0 : decide (0 < (t108.size : Int)) = true := decide_eq_true c5
        have c5b1 : decide (0 < t108.size) = true := decide_eq_true (by omega)
        clear c5
        have H' := Aside0.mk H
        clear H
        have p6 : 0 ≤ (0 : Int) := (by omega)
        have q6 : 0 < t108.size := (by have : (0 : Int) < (t108.size : Int) := of_decide_eq_true (by first | (with_reducible assumption) | assumption); omega)
        have hx6 : ∀ h : 0 < t108.size, ((t108[0]'h).toNat : Int) = bt t108 0 := bt_at t108 0
        clear p6
        have qi6 : (0 < (t108.size : Int)) = True := eq_true (of_decide_eq_true (by first | (with_reducible assumption) | assumption))
        replace q6 := eq_true q6
        go_wp2
        go_meet
        case rel => exact ⟨_, (((bt t108 0) != 123)), (by first | rfl | (simp; done) | (simp [*]; done)), H', ⟨by first | omega | exact Nat.le_refl _⟩, by repeat (first | exact Drawn0.refl _ | apply Drawn0.step)⟩
      · rw [if_neg c5] at H
        exact absurd H (by simp)
  case rest =>
    clear HC3
    try clear p2
    try clear c4
    try clear c4b0
    try clear c4b1
    try clear c5
    try clear c5b0
    try clear c5b1
    try clear p6
    try clear q6
    try clear hx6
    try clear qi6
    try clear p6
    try clear q6
    obtain ⟨kq, x19_2, rfl, HA, HJ2, ⟨mc2, rfl⟩⟩ := hcut
    cases kq with
    | zero => exact absurd HA.out (by simp [wire_head.j0])
    | succ kj2 =>
      have H := HA.out
      clear HA
      simp only [wire_head.j0] at H
      by_cases c7 : x19_2 = true
      · subst c7
        have H1 : (some (0, 0, false)) = some (r1, r2, r3) := by rw [if_pos rfl] at H; exact H
        clear H
        have H := H1
        clear H1
        simp only [Option.some.injEq, Prod.mk.injEq] at H
        obtain ⟨rfl, rfl, rfl⟩ := H
        go_wp2
        go_ret3
        exact ⟨by first | rfl | (simp; done) | (simp [*]; done), by repeat (first | exact Drawn0.refl _ | apply Drawn0.step)⟩
      · replace c7 := Bool.eq_false_iff.mpr c7
        subst c7
        have H1 : ((strings_IndexByte.f t108 125).bind fun t109 => (if t109 < 0 then (some (0, 0, false)) else (if 1 ≤ t109 then (if t109 ≤ (t108.size : Int) then ((strings_CutSuffix.f (t108.extract 1 (t109 : Int).toNat) (⟨#[43]⟩ : ByteArray)).bind fun bt110 => ((chars_Number.f kj2 bt110.1).bind fun bt112 => (if bt112.2 = true then (some (wrap64 ((wrap64 ((wrap64 ((a0.size : Int) - (t108.size : Int))) + t109)) + 1), bt112.1, !bt110.2)) else (some (0, 0, false))))) else (none)) else (none)))) = some (r1, r2, r3) := by rw [if_neg (show ¬ (false = true) by decide)] at H; exact H
        clear H
        have H := H1
        clear H1
        replace H := Option.bind_eq_some_iff.mp H
        obtain ⟨t109, A80, H⟩ := H
        replace H : (if t109 < 0 then (some (0, 0, false)) else (if 1 ≤ t109 then (if t109 ≤ (t108.size : Int) then ((strings_CutSuffix.f (t108.extract 1 (t109 : Int).toNat) (⟨#[43]⟩ : ByteArray)).bind fun bt110 => ((chars_Number.f kj2 bt110.1).bind fun bt112 => (if bt112.2 = true then (some (wrap64 ((wrap64 ((wrap64 ((a0.size : Int) - (t108.size : Int))) + t109)) + 1), bt112.1, !bt110.2)) else (some (0, 0, false))))) else (none)) else (none))) = some (r1, r2, r3) := H
        have A8 := Aside0.mk A80
        clear A80
        by_cases c9 : t109 < 0
        · rw [if_pos c9] at H
          have c9b0 : decide (t109 < 0) = true := decide_eq_true c9
          clear c9
          simp only [Option.some.injEq, Prod.mk.injEq] at H
          obtain ⟨rfl, rfl, rfl⟩ := H
          go_wp2_with (first | ((with_reducible refine gate_callee (f := 24) rfl ?_); refine goesL_ (some 21) rfl rfl Try.func24 (by kernel_rfl) rfl #[.string t108, .int .u8 125] rfl (by (try simp only [List.map_toArray, List.map_cons, List.map_nil]); first | done | rfl | (simp only [List.length_drop, List.length_take]; rfl)) ?_; (with_reducible refine (strings_IndexByte.calls t108 125 t109 _ A8.out).mono ?_); rintro e w' ⟨rfl, ⟨nd, rfl⟩⟩; refine ⟨_, rfl, ?_⟩))
          go_ret3
          exact ⟨by first | rfl | (simp; done) | (simp [*]; done), by repeat (first | exact Drawn0.refl _ | apply Drawn0.step)⟩
        · rw [if_neg c9] at H
          have c9b0 : decide (t109 < 0) = false := decide_eq_false c9
          clear c9
          by_cases c10 : 1 ≤ t109
          · rw [if_pos c10] at H
            have c10b0 := eq_true c10
            have c10b1 : decide (1 ≤ t109) = true := decide_eq_true c10
            clear c10
            by_cases c11 : t109 ≤ (t108.size : Int)
            · rw [if_pos c11] at H
              have c11b0 := eq_true c11
              have c11b1 : decide (t109 ≤ (t108.size : Int)) = true := decide_eq_true c11
              clear c11
              replace H := Option.bind_eq_some_iff.mp H
              obtain ⟨⟨t110, t111⟩, A120, H⟩ := H
              replace H : ((chars_Number.f kj2 t110).bind fun bt112 => (if bt112.2 = true then (some (wrap64 ((wrap64 ((wrap64 ((a0.size : Int) - (t108.size : Int))) + t109)) + 1), bt112.1, !t111)) else (some (0, 0, false)))) = some (r1, r2, r3) := H
              have A12 := Aside0.mk A120
              clear A120
              replace H := Option.bind_eq_some_iff.mp H
              obtain ⟨⟨t112, t113⟩, A130, H⟩ := H
              replace H : (if t113 = true then (some (wrap64 ((wrap64 ((wrap64 ((a0.size : Int) - (t108.size : Int))) + t109)) + 1), t112, !t111)) else (some (0, 0, false))) = some (r1, r2, r3) := H
              have A13 := Aside0.mk A130
              clear A130
              by_cases c14 : t113 = true
              · subst c14
                have H1 : (some (wrap64 ((wrap64 ((wrap64 ((a0.size : Int) - (t108.size : Int))) + t109)) + 1), t112, !t111)) = some (r1, r2, r3) := by rw [if_pos rfl] at H; exact H
                clear H
                have H := H1
                clear H1
                simp only [Option.some.injEq, Prod.mk.injEq] at H
                obtain ⟨rfl, rfl, rfl⟩ := H
                go_wp2_with (first | ((with_reducible refine gate_callee (f := 24) rfl ?_); refine goesL_ (some 21) rfl rfl Try.func24 (by kernel_rfl) rfl #[.string t108, .int .u8 125] rfl (by (try simp only [List.map_toArray, List.map_cons, List.map_nil]); first | done | rfl | (simp only [List.length_drop, List.length_take]; rfl)) ?_; (with_reducible refine (strings_IndexByte.calls t108 125 t109 _ A8.out).mono ?_); rintro e w' ⟨rfl, ⟨nd, rfl⟩⟩; refine ⟨_, rfl, ?_⟩) | ((with_reducible refine gate_callee (f := 48) rfl ?_); refine goesL_ (some 28) rfl rfl Try.func48 (by kernel_rfl) rfl #[.string (t108.extract 1 (t109 : Int).toNat), .string (⟨#[43]⟩ : ByteArray)] rfl (by (try simp only [List.map_toArray, List.map_cons, List.map_nil]); first | done | rfl | (simp only [List.length_drop, List.length_take]; rfl)) ?_; (with_reducible refine (strings_CutSuffix.calls (t108.extract 1 (t109 : Int).toNat) (⟨#[43]⟩ : ByteArray) t110 t111 _ A12.out).mono ?_); rintro e w' ⟨rfl, ⟨nd, rfl⟩⟩; refine ⟨_, rfl, ?_⟩) | ((with_reducible refine gate_callee (f := 49) rfl ?_); refine goesL_ (some 33) rfl rfl Try.func49 (by kernel_rfl) rfl #[.string t110] rfl (by (try simp only [List.map_toArray, List.map_cons, List.map_nil]); first | done | rfl | (simp only [List.length_drop, List.length_take]; rfl)) ?_; (with_reducible refine (chars_Number.calls kj2 t110 t112 true _ A13.out).mono ?_); rintro e w' ⟨rfl, ⟨nd, rfl⟩⟩; refine ⟨_, rfl, ?_⟩))
                go_ret3
                exact ⟨by first | rfl | (simp; done) | (simp [*]; done), by repeat (first | exact Drawn0.refl _ | apply Drawn0.step)⟩
              · replace c14 := Bool.eq_false_iff.mpr c14
                subst c14
                have H1 : (some (0, 0, false)) = some (r1, r2, r3) := by rw [if_neg (show ¬ (false = true) by decide)] at H; exact H
                clear H
                have H := H1
                clear H1
                simp only [Option.some.injEq, Prod.mk.injEq] at H
                obtain ⟨rfl, rfl, rfl⟩ := H
                go_wp2_with (first | ((with_reducible refine gate_callee (f := 24) rfl ?_); refine goesL_ (some 21) rfl rfl Try.func24 (by kernel_rfl) rfl #[.string t108, .int .u8 125] rfl (by (try simp only [List.map_toArray, List.map_cons, List.map_nil]); first | done | rfl | (simp only [List.length_drop, List.length_take]; rfl)) ?_; (with_reducible refine (strings_IndexByte.calls t108 125 t109 _ A8.out).mono ?_); rintro e w' ⟨rfl, ⟨nd, rfl⟩⟩; refine ⟨_, rfl, ?_⟩) | ((with_reducible refine gate_callee (f := 48) rfl ?_); refine goesL_ (some 28) rfl rfl Try.func48 (by kernel_rfl) rfl #[.string (t108.extract 1 (t109 : Int).toNat), .string (⟨#[43]⟩ : ByteArray)] rfl (by (try simp only [List.map_toArray, List.map_cons, List.map_nil]); first | done | rfl | (simp only [List.length_drop, List.length_take]; rfl)) ?_; (with_reducible refine (strings_CutSuffix.calls (t108.extract 1 (t109 : Int).toNat) (⟨#[43]⟩ : ByteArray) t110 t111 _ A12.out).mono ?_); rintro e w' ⟨rfl, ⟨nd, rfl⟩⟩; refine ⟨_, rfl, ?_⟩) | ((with_reducible refine gate_callee (f := 49) rfl ?_); refine goesL_ (some 33) rfl rfl Try.func49 (by kernel_rfl) rfl #[.string t110] rfl (by (try simp only [List.map_toArray, List.map_cons, List.map_nil]); first | done | rfl | (simp only [List.length_drop, List.length_take]; rfl)) ?_; (with_reducible refine (chars_Number.calls kj2 t110 t112 false _ A13.out).mono ?_); rintro e w' ⟨rfl, ⟨nd, rfl⟩⟩; refine ⟨_, rfl, ?_⟩))
                go_ret3
                exact ⟨by first | rfl | (simp; done) | (simp [*]; done), by repeat (first | exact Drawn0.refl _ | apply Drawn0.step)⟩
            · rw [if_neg c11] at H
              exact absurd H (by simp)
          · rw [if_neg c10] at H
            exact absurd H (by simp)

/-! ### wire_tail: function 33 -/
def wire_tail.f (k : Nat) (a0 : ByteArray) : Option (Int × Bool × Bool) := (strings_LastIndexByte.f k a0 123).bind fun t114 => (if t114 < 0 then (some (0, false, false)) else (if 0 ≤ t114 then (if t114 ≤ (a0.size : Int) then ((wire_head.f k (a0.extract (t114 : Int).toNat a0.size)).bind fun bt115 => (if bt115.1 > 0 then (some (bt115.2.1, bt115.2.2, ((wrap64 (t114 + bt115.1)) == (a0.size : Int)))) else (some (bt115.2.1, bt115.2.2, false)))) else (none)) else (none)))
theorem wire_tail.mono : ∀ a0 k, LeO (wire_tail.f k a0) (wire_tail.f (k + 1) a0) := by
  intro a0 k
  unfold wire_tail.f
  repeat' first
      | (with_reducible exact strings_LastIndexByte.mono _ _ _)
      | (with_reducible exact wire_head.mono _ _)
      | (with_reducible exact LeO.refl _)
      | (with_reducible exact LeO.none _)
      | (with_reducible refine LeO.ite ?_ ?_)
      | (with_reducible refine LeO.bind ?_ (fun _ => ?_))
      | exact strings_LastIndexByte.mono _ _ _
      | exact wire_head.mono _ _
      | exact LeO.none _
      | refine LeO.ite ?_ ?_
      | refine LeO.bind ?_ (fun _ => ?_)
set_option maxHeartbeats 8000000 in
set_option maxRecDepth 100000 in
theorem wire_tail.calls (k : Nat) (a0 : ByteArray) (r1 : Int) (r2 : Bool) (r3 : Bool) (w : World) (h : wire_tail.f k a0 = some (r1, r2, r3)) :
    Calls Try.prog 33 #[.string a0] w fun e w' => e = .returned (.tuple #[.int .i64 r1, .bool r2, .bool r3]) ∧ Drawn0 w w' := by
  have H : ((strings_LastIndexByte.f k a0 123).bind fun t114 => (if t114 < 0 then (some (0, false, false)) else (if 0 ≤ t114 then (if t114 ≤ (a0.size : Int) then ((wire_head.f k (a0.extract (t114 : Int).toNat a0.size)).bind fun bt115 => (if bt115.1 > 0 then (some (bt115.2.1, bt115.2.2, ((wrap64 (t114 + bt115.1)) == (a0.size : Int)))) else (some (bt115.2.1, bt115.2.2, false)))) else (none)) else (none)))) = some (r1, r2, r3) := h
  clear h
  replace H := Option.bind_eq_some_iff.mp H
  obtain ⟨t114, A20, H⟩ := H
  replace H : (if t114 < 0 then (some (0, false, false)) else (if 0 ≤ t114 then (if t114 ≤ (a0.size : Int) then ((wire_head.f k (a0.extract (t114 : Int).toNat a0.size)).bind fun bt115 => (if bt115.1 > 0 then (some (bt115.2.1, bt115.2.2, ((wrap64 (t114 + bt115.1)) == (a0.size : Int)))) else (some (bt115.2.1, bt115.2.2, false)))) else (none)) else (none))) = some (r1, r2, r3) := H
  have A2 := Aside0.mk A20
  clear A20
  by_cases c3 : t114 < 0
  · rw [if_pos c3] at H
    have c3b0 : decide (t114 < 0) = true := decide_eq_true c3
    clear c3
    simp only [Option.some.injEq, Prod.mk.injEq] at H
    obtain ⟨rfl, rfl, rfl⟩ := H
    go_enter Try.func33, Try.ntmps33
    go_wp2_with (first | ((with_reducible refine gate_callee (f := 41) rfl ?_); refine goesL_ (some 10) rfl rfl Try.func41 (by kernel_rfl) rfl #[.string a0, .int .u8 123] rfl (by (try simp only [List.map_toArray, List.map_cons, List.map_nil]); first | done | rfl | (simp only [List.length_drop, List.length_take]; rfl)) ?_; (with_reducible refine (strings_LastIndexByte.calls k a0 123 t114 _ A2.out).mono ?_); rintro e w' ⟨rfl, ⟨nd, rfl⟩⟩; refine ⟨_, rfl, ?_⟩))
    go_ret3
    exact ⟨by first | rfl | (simp; done) | (simp [*]; done), by repeat (first | exact Drawn0.refl _ | apply Drawn0.step)⟩
  · rw [if_neg c3] at H
    have c3b0 : decide (t114 < 0) = false := decide_eq_false c3
    clear c3
    by_cases c4 : 0 ≤ t114
    · rw [if_pos c4] at H
      have c4b0 := eq_true c4
      have c4b1 : decide (0 ≤ t114) = true := decide_eq_true c4
      clear c4
      by_cases c5 : t114 ≤ (a0.size : Int)
      · rw [if_pos c5] at H
        have c5b0 := eq_true c5
        have c5b1 : decide (t114 ≤ (a0.size : Int)) = true := decide_eq_true c5
        clear c5
        replace H := Option.bind_eq_some_iff.mp H
        obtain ⟨⟨t115, t116, t117⟩, A60, H⟩ := H
        replace H : (if t115 > 0 then (some (t116, t117, ((wrap64 (t114 + t115)) == (a0.size : Int)))) else (some (t116, t117, false))) = some (r1, r2, r3) := H
        have A6 := Aside0.mk A60
        clear A60
        by_cases c7 : t115 > 0
        · rw [if_pos c7] at H
          have c7b0 : decide (0 < t115) = true := decide_eq_true c7
          clear c7
          simp only [Option.some.injEq, Prod.mk.injEq] at H
          obtain ⟨rfl, rfl, rfl⟩ := H
          go_enter Try.func33, Try.ntmps33
          go_wp2_with (first | ((with_reducible refine gate_callee (f := 41) rfl ?_); refine goesL_ (some 10) rfl rfl Try.func41 (by kernel_rfl) rfl #[.string a0, .int .u8 123] rfl (by (try simp only [List.map_toArray, List.map_cons, List.map_nil]); first | done | rfl | (simp only [List.length_drop, List.length_take]; rfl)) ?_; (with_reducible refine (strings_LastIndexByte.calls k a0 123 t114 _ A2.out).mono ?_); rintro e w' ⟨rfl, ⟨nd, rfl⟩⟩; refine ⟨_, rfl, ?_⟩) | ((with_reducible refine gate_callee (f := 42) rfl ?_); refine goesL_ (some 17) rfl rfl Try.func42 (by kernel_rfl) rfl #[.string (a0.extract (t114 : Int).toNat a0.size)] rfl (by (try simp only [List.map_toArray, List.map_cons, List.map_nil]); first | done | rfl | (simp only [List.length_drop, List.length_take]; rfl)) ?_; (with_reducible refine (wire_head.calls k (a0.extract (t114 : Int).toNat a0.size) t115 t116 t117 _ A6.out).mono ?_); rintro e w' ⟨rfl, ⟨nd, rfl⟩⟩; refine ⟨_, rfl, ?_⟩))
          go_ret3
          exact ⟨by first | rfl | (simp; done) | (simp [*]; done), by repeat (first | exact Drawn0.refl _ | apply Drawn0.step)⟩
        · rw [if_neg c7] at H
          have c7b0 : decide (0 < t115) = false := decide_eq_false c7
          clear c7
          simp only [Option.some.injEq, Prod.mk.injEq] at H
          obtain ⟨rfl, rfl, rfl⟩ := H
          go_enter Try.func33, Try.ntmps33
          go_wp2_with (first | ((with_reducible refine gate_callee (f := 41) rfl ?_); refine goesL_ (some 10) rfl rfl Try.func41 (by kernel_rfl) rfl #[.string a0, .int .u8 123] rfl (by (try simp only [List.map_toArray, List.map_cons, List.map_nil]); first | done | rfl | (simp only [List.length_drop, List.length_take]; rfl)) ?_; (with_reducible refine (strings_LastIndexByte.calls k a0 123 t114 _ A2.out).mono ?_); rintro e w' ⟨rfl, ⟨nd, rfl⟩⟩; refine ⟨_, rfl, ?_⟩) | ((with_reducible refine gate_callee (f := 42) rfl ?_); refine goesL_ (some 17) rfl rfl Try.func42 (by kernel_rfl) rfl #[.string (a0.extract (t114 : Int).toNat a0.size)] rfl (by (try simp only [List.map_toArray, List.map_cons, List.map_nil]); first | done | rfl | (simp only [List.length_drop, List.length_take]; rfl)) ?_; (with_reducible refine (wire_head.calls k (a0.extract (t114 : Int).toNat a0.size) t115 t116 t117 _ A6.out).mono ?_); rintro e w' ⟨rfl, ⟨nd, rfl⟩⟩; refine ⟨_, rfl, ?_⟩))
          go_ret3
          exact ⟨by first | rfl | (simp; done) | (simp [*]; done), by repeat (first | exact Drawn0.refl _ | apply Drawn0.step)⟩
      · rw [if_neg c5] at H
        exact absurd H (by simp)
    · rw [if_neg c4] at H
      exact absurd H (by simp)

-- NOT PRINTED: function 18 (wire_Framer_first)

-- NOT PRINTED: function 9 (wire_Framer_Feed)

/-! ### wire_printed: function 21 -/
def wire_printed.f (a0 : Int) : Option (Bool) := if a0 ≥ 32 then (some (decide (a0 < 127))) else (some false)
set_option maxHeartbeats 8000000 in
set_option maxRecDepth 100000 in
theorem wire_printed.calls (a0 : Int) (r : Bool) (w : World) (h : wire_printed.f a0 = some r) :
    Calls Try.prog 21 #[.int .u8 a0] w fun e w' => e = .returned (.bool r) ∧ Drawn0 w w' := by
  have H : (if a0 ≥ 32 then (some (decide (a0 < 127))) else (some false)) = some r := h
  clear h
  by_cases c2 : a0 ≥ 32
  · rw [if_pos c2] at H
    have c2b0 : decide (32 ≤ a0) = true := decide_eq_true c2
    clear c2
    obtain rfl := Option.some.inj H
    go_enter Try.func21, Try.ntmps21
    go_wp2
    go_ret
    exact ⟨by first | rfl | (simp; done) | (simp [*]; done), by repeat (first | exact Drawn0.refl _ | apply Drawn0.step)⟩
  · rw [if_neg c2] at H
    have c2b0 : decide (32 ≤ a0) = false := decide_eq_false c2
    clear c2
    obtain rfl := Option.some.inj H
    go_enter Try.func21, Try.ntmps21
    go_wp2
    go_ret
    exact ⟨by first | rfl | (simp; done) | (simp [*]; done), by repeat (first | exact Drawn0.refl _ | apply Drawn0.step)⟩

/-! ### chars_in: function 36 -/
def chars_in.ascii (s : ByteArray) : Bool := s.data.toList.all fun b => b.toNat < 128
def chars_in.f (a0 : ByteArray) (a1 : Int) : Option Bool := if chars_in.ascii a0 = true ∧ 0 ≤ a1 ∧ a1 < 256 then some (a0.data.toList.any fun b => (b.toNat : Int) == a1) else none
def chars_in.posOf (w wr : World) : Nat := match wr.heap[w.heap.size]? with | some (.stringIter _ p) => p | _ => 0
theorem chars_in.posOf_iter (w : World) (s : ByteArray) (p : Nat) : chars_in.posOf w (w.iter s p) = p := by
  simp only [chars_in.posOf, World.iter_heap]
set_option maxHeartbeats 2000000 in
theorem chars_in.calls (a0 : ByteArray) (a1 : Int) (r : Bool) (w : World) (h : chars_in.f a0 a1 = some r) :
    Calls Try.prog 36 #[.string a0, .int .u8 a1] w fun e w' => e = .returned (.bool r) ∧ Below w.heap.size w w' := by
  unfold chars_in.f at h
  by_cases hh : chars_in.ascii a0 = true ∧ 0 ≤ a1 ∧ a1 < 256
  case neg => rw [if_neg hh] at h; exact absurd h (by simp)
  rw [if_pos hh] at h
  have hr := Option.some.inj h
  clear h
  obtain ⟨has, h0, h1⟩ := hh
  have hw : IntKind.i32.wrap a1 = a1 := by rw [IntKind.wrap_i32]; omega
  have hasc : ∀ (p : Nat) (hp : p < a0.size), (a0[p]'hp).toNat < 128 := by
    intro p hp
    have := List.all_eq_true.mp has (a0[p]'hp) (Array.mem_toList_iff.mpr (Array.getElem_mem (xs := a0.data) hp))
    simpa using this
  go_enter Try.func36, Try.ntmps36
  go_wp2
  go_loopw [6] (fun v6 wr => ∃ pos : Nat, pos ≤ a0.size ∧ wr = w.iter a0 pos ∧ ∀ (j : Nat) (hj : j < a0.size), j < pos → ((a0[j]'hj).toNat : Int) ≠ a1) (fun _ wr => a0.size - chars_in.posOf w wr)
  case atStart => exact ⟨0, Nat.zero_le _, rfl, fun j hj h => absurd h (Nat.not_lt_zero _)⟩
  case round =>
    obtain ⟨pos, hp, rfl, hj⟩ := hrel
    by_cases hlt : pos < a0.size
    · have hn := run_next_ascii (P := Try.prog) w a0 pos 0 hlt (hasc pos hlt)
      by_cases he : ((a0[pos]'hlt).toNat : Int) = a1
      · have hd : decide (((a0[pos]'hlt).toNat : Int) = a1) = true := decide_eq_true he
        go_wp2
        go_ret
        refine ⟨?_, (Below.refl _ _).alloc (Nat.le_refl _) _⟩
        rw [← hr]
        have : (a0.data.toList.any fun b => (b.toNat : Int) == a1) = true := List.any_eq_true.mpr ⟨_, Array.mem_toList_iff.mpr (Array.getElem_mem (xs := a0.data) hlt), beq_iff_eq.mpr he⟩
        rw [this]; rfl
      · have hd : decide (((a0[pos]'hlt).toNat : Int) = a1) = false := decide_eq_false he
        go_wp2
        go_roundw
        case measure => rw [chars_in.posOf_iter, chars_in.posOf_iter]; omega
        case rel =>
        refine ⟨pos + 1, hlt, rfl, fun j h2 h3 => ?_⟩
        by_cases e : j = pos
        · subst e; exact he
        · exact hj j h2 (by omega)
    · have hn := run_next_end (P := Try.prog) w a0 pos 0 hlt
      go_wp2
      go_ret
      refine ⟨?_, (Below.refl _ _).alloc (Nat.le_refl _) _⟩
      rw [← hr]
      have : (a0.data.toList.any fun b => (b.toNat : Int) == a1) = false := by
        rw [List.any_eq_false]
        intro b hb
        obtain ⟨i, hi, rfl⟩ := List.getElem_of_mem hb
        have hi2 : i < a0.size := by simpa using hi
        have := hj i hi2 (by omega)
        simp only [beq_iff_eq]
        exact this
      rw [this]; rfl

/-! ### chars_Atom: function 29 -/
def chars_Atom.f (a0 : Int) : Option (Bool) := if a0 ≥ 33 then (if a0 ≤ 126 then ((chars_in.f (⟨#[40, 41, 123, 37, 42, 34, 92, 93]⟩ : ByteArray) a0).bind fun t125 => (some (!t125))) else (some false)) else (some false)
set_option maxHeartbeats 8000000 in
set_option maxRecDepth 100000 in
theorem chars_Atom.calls (a0 : Int) (r : Bool) (w : World) (h : chars_Atom.f a0 = some r) :
    Calls Try.prog 29 #[.int .u8 a0] w fun e w' => e = .returned (.bool r) ∧ Below w.heap.size w w' := by
  have HB := Aside0.mk (Below.refl w.heap.size w)
  have H : (if a0 ≥ 33 then (if a0 ≤ 126 then ((chars_in.f (⟨#[40, 41, 123, 37, 42, 34, 92, 93]⟩ : ByteArray) a0).bind fun t125 => (some (!t125))) else (some false)) else (some false)) = some r := h
  clear h
  by_cases c2 : a0 ≥ 33
  · rw [if_pos c2] at H
    have c2b0 : decide (33 ≤ a0) = true := decide_eq_true c2
    clear c2
    by_cases c3 : a0 ≤ 126
    · rw [if_pos c3] at H
      have c3b0 : decide (a0 ≤ 126) = true := decide_eq_true c3
      clear c3
      replace H := Option.bind_eq_some_iff.mp H
      obtain ⟨t125, A40, H⟩ := H
      replace H : (some (!t125)) = some r := H
      have A4 := Aside0.mk A40
      clear A40
      obtain rfl := Option.some.inj H
      go_enter Try.func29, Try.ntmps29
      go_wp2_with (first | (go_at_call 36; (with_reducible refine (chars_in.calls (⟨#[40, 41, 123, 37, 42, 34, 92, 93]⟩ : ByteArray) a0 t125 _ A4.out).mono ?_); rintro e w5 ⟨rfl, hb⟩; have n0_ := Aside0.mk (below_step (by repeat (first | (with_reducible first | exact HB.out | apply below_alloc | apply pw_below_drewN | apply below_drew1) | exact HB.out)) hb); clear HB; have HB := n0_; clear n0_; (try clear hb); (try clear hb2); (try clear hk); (try clear hi)))
      go_ret
      exact ⟨by first | rfl | (simp [errW_none, errW_some] <;> rfl) | (simp [*, errW_none, errW_some] <;> rfl), by repeat (first | (with_reducible first | exact HB.out | apply below_alloc | apply pw_below_drewN | apply below_drew1) | exact HB.out)⟩
    · rw [if_neg c3] at H
      have c3b0 : decide (a0 ≤ 126) = false := decide_eq_false c3
      clear c3
      obtain rfl := Option.some.inj H
      go_enter Try.func29, Try.ntmps29
      go_wp2
      go_ret
      exact ⟨by first | rfl | (simp [errW_none, errW_some] <;> rfl) | (simp [*, errW_none, errW_some] <;> rfl), by repeat (first | (with_reducible first | exact HB.out | apply below_alloc | apply pw_below_drewN | apply below_drew1) | exact HB.out)⟩
  · rw [if_neg c2] at H
    have c2b0 : decide (33 ≤ a0) = false := decide_eq_false c2
    clear c2
    obtain rfl := Option.some.inj H
    go_enter Try.func29, Try.ntmps29
    go_wp2
    go_ret
    exact ⟨by first | rfl | (simp [errW_none, errW_some] <;> rfl) | (simp [*, errW_none, errW_some] <;> rfl), by repeat (first | (with_reducible first | exact HB.out | apply below_alloc | apply pw_below_drewN | apply below_drew1) | exact HB.out)⟩

/-! ### wire_all: function 20 -/
def wr_is (n : Nat) (c : Int) : Bool := if n = 21 then decide (32 ≤ c ∧ c < 127) else (chars_Atom.f c).getD false
def wire_all.f (a0 : ByteArray) (a1 : Nat) : Option Bool := if (a1 = 21 ∨ a1 = 29) ∧ a0.size ≤ 100000000 then some ((bytesOf a0).all (wr_is a1)) else none
theorem wr_rd (l : List Int) (i : Nat) (h : i < l.length) : rd l (i : Int) = l[i] := by
  unfold rd
  rw [Int.toNat_natCast, List.getD_eq_getElem?_getD, List.getElem?_eq_getElem h]; rfl
theorem wr_all_at (p : Int → Bool) (s : ByteArray) (k : Nat) (hk : k ≤ s.size) (hn : ∀ j : Nat, j < k → p (bt s (j : Int)) = true) (he : k = s.size ∨ p (bt s (k : Int)) = false) : (bytesOf s).all p = decide (k = s.size) := by
  have hs := Go.Proofs.Ytmdhggiffdkmfaa.Aids.size_bytes s
  rcases he with rfl | he
  · rw [decide_eq_true rfl, List.all_eq_true]
    intro x hx
    obtain ⟨j, hj, rfl⟩ := List.getElem_of_mem hx
    have := hn j (by omega)
    rwa [Go.Proofs.Ytmdhggiffdkmfaa.Aids.bt_bytes, wr_rd _ j hj] at this
  · by_cases e : k = s.size
    · subst e
      rw [decide_eq_true rfl, List.all_eq_true]
      intro x hx
      obtain ⟨j, hj, rfl⟩ := List.getElem_of_mem hx
      have := hn j (by omega)
      rwa [Go.Proofs.Ytmdhggiffdkmfaa.Aids.bt_bytes, wr_rd _ j hj] at this
    · rw [decide_eq_false e, List.all_eq_false]
      rw [Go.Proofs.Ytmdhggiffdkmfaa.Aids.bt_bytes, wr_rd _ k (by omega)] at he
      have hk2 : k < (bytesOf s).length := by omega
      exact ⟨(bytesOf s)[k]'hk2, List.getElem_mem hk2, by rw [he]; decide⟩
theorem wr_byte (s : ByteArray) (k : Nat) (h : k < s.size) : 0 ≤ bt s (k : Int) ∧ bt s (k : Int) ≤ 255 := by
  have hs := Go.Proofs.Ytmdhggiffdkmfaa.Aids.size_bytes s
  rw [Go.Proofs.Ytmdhggiffdkmfaa.Aids.bt_bytes, wr_rd _ k (by omega)]
  exact Go.Proofs.Ytmdhggiffdkmfaa.Aids.byte_of _ (List.getElem_mem (by omega))
theorem wr_printed (c : Int) (hc : 0 ≤ c ∧ c ≤ 255) (w : World) : Calls Try.prog 21 #[.int .u8 c] w fun e w' => e = .returned (.bool (wr_is 21 c)) ∧ Below w.heap.size w w' := by
  have h : wire_printed.f c = some (wr_is 21 c) := by
    unfold wire_printed.f wr_is
    rw [if_pos rfl]
    by_cases h : c ≥ 32
    · rw [if_pos h]; congr 1; rw [decide_eq_decide]; omega
    · rw [if_neg h]; congr 1; rw [decide_eq_false (by omega)]
  exact (wire_printed.calls c _ w h).mono fun e w' ⟨he, hw⟩ => ⟨he, Drawn0.below hw⟩
set_option maxHeartbeats 2000000 in
theorem wr_all_printed (s : ByteArray) (hs : s.size ≤ 100000000) (w : World) :
    Calls Try.prog 20 #[.string s, .func (.func 21) #[] #[]] w fun e w' => e = .returned (.bool ((bytesOf s).all (wr_is 21))) ∧ Below w.heap.size w w' := by
  go_enter Try.func20, Try.ntmps20
  go_wp2
  go_loopw [8] (fun i wr => ∃ x : Int, i = .int .i64 x ∧ Aside0 (0 ≤ x ∧ x ≤ (s.size : Int)) ∧ Aside0 (Below w.heap.size w wr) ∧ Aside0 (∀ j : Nat, j < x.toNat → wr_is 21 (bt s (j : Int)) = true)) (fun i _ => s.size - (intOf i).toNat)
  case atStart => exact ⟨0, rfl, ⟨by omega⟩, ⟨Below.refl _ _⟩, ⟨fun j hj => by simp at hj⟩⟩
  case round =>
    obtain ⟨x, rfl, hk, hB, hn⟩ := hrel
    have h0 := hk.out.1
    have h1 := hk.out.2
    by_cases hlt : x < (s.size : Int)
    · have hb : decide (x < (s.size : Int)) = true := decide_eq_true hlt
      have hx := bt_at s x
      have p4 := eq_true h0
      have q4 := eq_true hlt
      have HW := Aside0.mk (wr_printed (bt s x) (by have h_ := wr_byte s x.toNat (by omega); rwa [Int.toNat_of_nonneg h0] at h_))
      cases hv : wr_is 21 (bt s x) with
      | true =>
        rw [hv] at HW
        have HV := Aside0.mk hv
        have HX := Aside0.mk hlt
        clear hv hlt h0 h1
        go_wp2_with (go_at_call 21; refine (HW.out _).mono ?_; rintro e w2 ⟨rfl, hB2⟩; have HB2 := Aside0.mk hB2; clear hB2)
        go_roundw
        case rel => exact ⟨x + 1, by have h0 := hk.out.1; have h1 := HX.out; have e : wrap64 (x + 1) = x + 1 := (by unfold wrap64; omega); first | (rw [e]; done) | rfl | (simp [e]; done), ⟨by have h0 := hk.out.1; have h1 := HX.out; omega⟩, ⟨hB.out.trans (HB2.out.mono hB.out.size)⟩, ⟨fun j hj => by
          have h0 := hk.out.1
          by_cases e : j = x.toNat
          · subst e; rw [Int.toNat_of_nonneg h0]; exact HV.out
          · exact hn.out j (by omega)⟩⟩
        case measure => have h0 := hk.out.1; have h1 := HX.out; have e : wrap64 (x + 1) = x + 1 := (by unfold wrap64; omega); simp only [intOf, e]; omega
      | false =>
        rw [hv] at HW
        have HR := Aside0.mk (show (bytesOf s).all (wr_is 21) = false by rw [wr_all_at _ s x.toNat (by omega) hn.out (.inr (by rw [Int.toNat_of_nonneg h0]; exact hv)), decide_eq_false (by omega)])
        clear hv hlt h0 h1
        go_wp2_with (go_at_call 21; refine (HW.out _).mono ?_; rintro e w2 ⟨rfl, hB2⟩; have HB2 := Aside0.mk hB2; clear hB2)
        go_ret
        rw [HR.out]
        exact ⟨rfl, hB.out.trans (HB2.out.mono hB.out.size)⟩
    · have hb : decide (x < (s.size : Int)) = false := decide_eq_false hlt
      have HR := Aside0.mk (show (bytesOf s).all (wr_is 21) = true by rw [wr_all_at _ s x.toNat (by omega) hn.out (.inl (by omega)), decide_eq_true (by omega)])
      clear hlt h0 h1
      go_wp2
      go_ret
      rw [HR.out]
      exact ⟨rfl, hB.out⟩
theorem wr_atoms : ∀ c : Fin 256, (chars_Atom.f ((c.val : Nat) : Int)).isSome = true := by decide +kernel
theorem wr_atom (c : Int) (hc : 0 ≤ c ∧ c ≤ 255) (w : World) : Calls Try.prog 29 #[.int .u8 c] w fun e w' => e = .returned (.bool (wr_is 29 c)) ∧ Below w.heap.size w w' := by
  have h : chars_Atom.f c = some (wr_is 29 c) := by
    unfold wr_is
    rw [if_neg (by decide)]
    have h := wr_atoms ⟨c.toNat, by omega⟩
    rw [show ((c.toNat : Nat) : Int) = c by omega] at h
    cases hv : chars_Atom.f c with
    | none => rw [hv] at h; cases h
    | some r => rfl
  exact chars_Atom.calls c _ w h
set_option maxHeartbeats 2000000 in
theorem wr_all_atom (s : ByteArray) (hs : s.size ≤ 100000000) (w : World) :
    Calls Try.prog 20 #[.string s, .func (.func 29) #[] #[]] w fun e w' => e = .returned (.bool ((bytesOf s).all (wr_is 29))) ∧ Below w.heap.size w w' := by
  go_enter Try.func20, Try.ntmps20
  go_wp2
  go_loopw [8] (fun i wr => ∃ x : Int, i = .int .i64 x ∧ Aside0 (0 ≤ x ∧ x ≤ (s.size : Int)) ∧ Aside0 (Below w.heap.size w wr) ∧ Aside0 (∀ j : Nat, j < x.toNat → wr_is 29 (bt s (j : Int)) = true)) (fun i _ => s.size - (intOf i).toNat)
  case atStart => exact ⟨0, rfl, ⟨by omega⟩, ⟨Below.refl _ _⟩, ⟨fun j hj => by simp at hj⟩⟩
  case round =>
    obtain ⟨x, rfl, hk, hB, hn⟩ := hrel
    have h0 := hk.out.1
    have h1 := hk.out.2
    by_cases hlt : x < (s.size : Int)
    · have hb : decide (x < (s.size : Int)) = true := decide_eq_true hlt
      have hx := bt_at s x
      have p4 := eq_true h0
      have q4 := eq_true hlt
      have HW := Aside0.mk (wr_atom (bt s x) (by have h_ := wr_byte s x.toNat (by omega); rwa [Int.toNat_of_nonneg h0] at h_))
      cases hv : wr_is 29 (bt s x) with
      | true =>
        rw [hv] at HW
        have HV := Aside0.mk hv
        have HX := Aside0.mk hlt
        clear hv hlt h0 h1
        go_wp2_with (go_at_call 29; refine (HW.out _).mono ?_; rintro e w2 ⟨rfl, hB2⟩; have HB2 := Aside0.mk hB2; clear hB2)
        go_roundw
        case rel => exact ⟨x + 1, by have h0 := hk.out.1; have h1 := HX.out; have e : wrap64 (x + 1) = x + 1 := (by unfold wrap64; omega); first | (rw [e]; done) | rfl | (simp [e]; done), ⟨by have h0 := hk.out.1; have h1 := HX.out; omega⟩, ⟨hB.out.trans (HB2.out.mono hB.out.size)⟩, ⟨fun j hj => by
          have h0 := hk.out.1
          by_cases e : j = x.toNat
          · subst e; rw [Int.toNat_of_nonneg h0]; exact HV.out
          · exact hn.out j (by omega)⟩⟩
        case measure => have h0 := hk.out.1; have h1 := HX.out; have e : wrap64 (x + 1) = x + 1 := (by unfold wrap64; omega); simp only [intOf, e]; omega
      | false =>
        rw [hv] at HW
        have HR := Aside0.mk (show (bytesOf s).all (wr_is 29) = false by rw [wr_all_at _ s x.toNat (by omega) hn.out (.inr (by rw [Int.toNat_of_nonneg h0]; exact hv)), decide_eq_false (by omega)])
        clear hv hlt h0 h1
        go_wp2_with (go_at_call 29; refine (HW.out _).mono ?_; rintro e w2 ⟨rfl, hB2⟩; have HB2 := Aside0.mk hB2; clear hB2)
        go_ret
        rw [HR.out]
        exact ⟨rfl, hB.out.trans (HB2.out.mono hB.out.size)⟩
    · have hb : decide (x < (s.size : Int)) = false := decide_eq_false hlt
      have HR := Aside0.mk (show (bytesOf s).all (wr_is 29) = true by rw [wr_all_at _ s x.toNat (by omega) hn.out (.inl (by omega)), decide_eq_true (by omega)])
      clear hlt h0 h1
      go_wp2
      go_ret
      rw [HR.out]
      exact ⟨rfl, hB.out⟩
theorem wire_all.calls (a0 : ByteArray) (a1 : Nat) (r : Bool) (w : World) (h : wire_all.f a0 a1 = some r) :
    Calls Try.prog 20 #[.string a0, .func (.func a1) #[] #[]] w fun e w' => e = .returned (.bool r) ∧ Below w.heap.size w w' := by
  unfold wire_all.f at h
  by_cases hh : (a1 = 21 ∨ a1 = 29) ∧ a0.size ≤ 100000000
  case neg => rw [if_neg hh] at h; exact absurd h (by simp)
  rw [if_pos hh] at h
  obtain rfl := Option.some.inj h
  rcases hh.1 with rfl | rfl
  · exact wr_all_printed a0 hh.2 w
  · exact wr_all_atom a0 hh.2 w

end Go.Proofs.Ytmdhggiffdkmfaa.P
