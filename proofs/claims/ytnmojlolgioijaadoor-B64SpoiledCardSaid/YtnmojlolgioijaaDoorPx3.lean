-- Written by a program of this session (wip/tools/mk.sh) for this claim: it runs the kit's print with contracts of our own. Lean checks it.
import Derived.Test.YtnmojlolgioijaaDoorPx0
import Derived.Test.YtnmojlolgioijaaDoorPx1
import Derived.Test.YtnmojlolgioijaaDoorPx2
namespace Go.Proofs.YtnmojlolgioijaaDoor.P
open Go.RowKit Go.Proofs.YtnmojlolgioijaaDoorW.PrintWords Go.Proofs.YtnmojlolgioijaaDoorW.PrintLast Go.Proofs.YtnmojlolgioijaaDoorW.PrintMore
attribute [-simp] Int.tmod_tmod_of_dvd
attribute [local go_sem] max2_int min2_int max_two min_two max_three min_three max_four min_four   -- for this text's walks alone
set_option linter.unusedVariables false
set_option linter.unusedSimpArgs false

/-! ### letterboxref02_Plain: function 16 -/
mutual
def letterboxref02_Plain.l0 : Nat → ByteArray → ByteArray → Int → Option (ByteArray)
  | 0, _, _, _ => none
  | k + 1, x0, x3, x4 => if x4 < (x0.size : Int) then (if 0 ≤ x4 then (if (wrap64 (x4 + 1)) < (x0.size : Int) then (if 0 ≤ (wrap64 (x4 + 1)) then (letterboxref02_Plain.j1 k x0 x3 x4 (wrap64 (bt x0 x4)) (wrap64 (bt x0 (wrap64 (x4 + 1)))) 0) else (none)) else (letterboxref02_Plain.j1 k x0 x3 x4 (wrap64 (bt x0 x4)) 0 0)) else (none)) else (some x3)
def letterboxref02_Plain.j1 : Nat → ByteArray → ByteArray → Int → Int → Int → Int → Option (ByteArray)
  | 0, _, _, _, _, _, _ => none
  | k + 1, x0, x3, x4, x5, x6, x7 => if (wrap64 (x4 + 2)) < (x0.size : Int) then (if 0 ≤ (wrap64 (x4 + 2)) then (letterboxref02_Plain.j2 k x0 x3 x4 x5 x6 (wrap64 (bt x0 (wrap64 (x4 + 2))))) else (none)) else (letterboxref02_Plain.j2 k x0 x3 x4 x5 x6 x7)
def letterboxref02_Plain.j2 : Nat → ByteArray → ByteArray → Int → Int → Int → Int → Option (ByteArray)
  | 0, _, _, _, _, _, _ => none
  | k + 1, x0, x3, x4, x5, x6, x7 => (letterboxref02_letter.f (wrap64 (Int.tdiv x5 4))).bind fun t131 => ((letterboxref02_letter.f (wrap64 ((wrap64 ((Int.tmod x5 4) * 16)) + (wrap64 (Int.tdiv x6 16))))).bind fun t132 => (if t131.size + t132.size ≤ 9223372036854775807 then (if x3.size + (t131 ++ t132).size ≤ 9223372036854775807 then (if (wrap64 (x4 + 1)) < (x0.size : Int) then ((letterboxref02_letter.f (wrap64 ((wrap64 ((Int.tmod x6 16) * 4)) + (wrap64 (Int.tdiv x7 64))))).bind fun t133 => (if (x3 ++ (t131 ++ t132)).size + t133.size ≤ 9223372036854775807 then (if (wrap64 (x4 + 2)) < (x0.size : Int) then ((letterboxref02_letter.f (Int.tmod x7 64)).bind fun t134 => (if ((x3 ++ (t131 ++ t132)) ++ t133).size + t134.size ≤ 9223372036854775807 then (letterboxref02_Plain.l0 k x0 (((x3 ++ (t131 ++ t132)) ++ t133) ++ t134) (wrap64 (x4 + 3))) else (none))) else (if ((x3 ++ (t131 ++ t132)) ++ t133).size + 1 ≤ 9223372036854775807 then (letterboxref02_Plain.l0 k x0 (((x3 ++ (t131 ++ t132)) ++ t133) ++ (⟨#[61]⟩ : ByteArray)) (wrap64 (x4 + 3))) else (none))) else (none))) else (if (x3 ++ (t131 ++ t132)).size + 1 ≤ 9223372036854775807 then (if (wrap64 (x4 + 2)) < (x0.size : Int) then ((letterboxref02_letter.f (Int.tmod x7 64)).bind fun t135 => (if ((x3 ++ (t131 ++ t132)) ++ (⟨#[61]⟩ : ByteArray)).size + t135.size ≤ 9223372036854775807 then (letterboxref02_Plain.l0 k x0 (((x3 ++ (t131 ++ t132)) ++ (⟨#[61]⟩ : ByteArray)) ++ t135) (wrap64 (x4 + 3))) else (none))) else (if ((x3 ++ (t131 ++ t132)) ++ (⟨#[61]⟩ : ByteArray)).size + 1 ≤ 9223372036854775807 then (letterboxref02_Plain.l0 k x0 (((x3 ++ (t131 ++ t132)) ++ (⟨#[61]⟩ : ByteArray)) ++ (⟨#[61]⟩ : ByteArray)) (wrap64 (x4 + 3))) else (none))) else (none))) else (none)) else (none)))
end
def letterboxref02_Plain.f (k : Nat) (a0 : ByteArray) : Option (ByteArray) := letterboxref02_Plain.l0 k a0 (⟨#[]⟩ : ByteArray) 0
theorem letterboxref02_Plain.mono_l : ∀ k, (∀ y0 y1 y2, LeO (letterboxref02_Plain.l0 k y0 y1 y2) (letterboxref02_Plain.l0 (k + 1) y0 y1 y2)) ∧ (∀ y0 y1 y2 y3 y4 y5, LeO (letterboxref02_Plain.j1 k y0 y1 y2 y3 y4 y5) (letterboxref02_Plain.j1 (k + 1) y0 y1 y2 y3 y4 y5)) ∧ (∀ y0 y1 y2 y3 y4 y5, LeO (letterboxref02_Plain.j2 k y0 y1 y2 y3 y4 y5) (letterboxref02_Plain.j2 (k + 1) y0 y1 y2 y3 y4 y5))
  | 0 => ⟨fun _ _ _ r h => by simp [letterboxref02_Plain.l0] at h, fun _ _ _ _ _ _ r h => by simp [letterboxref02_Plain.j1] at h, fun _ _ _ _ _ _ r h => by simp [letterboxref02_Plain.j2] at h⟩
  | k + 1 => by
    obtain ⟨ih0, ih1, ih2⟩ := letterboxref02_Plain.mono_l k
    refine ⟨?_, ?_, ?_⟩
    · intro y0 y1 y2
      unfold letterboxref02_Plain.l0
      repeat' first
      | (with_reducible exact ih0 _ _ _)
      | (with_reducible exact ih1 _ _ _ _ _ _)
      | (with_reducible exact ih2 _ _ _ _ _ _)
      | (with_reducible exact LeO.refl _)
      | (with_reducible exact LeO.none _)
      | (with_reducible refine LeO.ite ?_ ?_)
      | (with_reducible refine LeO.bind ?_ (fun _ => ?_))
      | exact ih0 _ _ _
      | exact ih1 _ _ _ _ _ _
      | exact ih2 _ _ _ _ _ _
      | exact LeO.none _
      | refine LeO.ite ?_ ?_
      | refine LeO.bind ?_ (fun _ => ?_)
    · intro y0 y1 y2 y3 y4 y5
      unfold letterboxref02_Plain.j1
      repeat' first
      | (with_reducible exact ih0 _ _ _)
      | (with_reducible exact ih1 _ _ _ _ _ _)
      | (with_reducible exact ih2 _ _ _ _ _ _)
      | (with_reducible exact LeO.refl _)
      | (with_reducible exact LeO.none _)
      | (with_reducible refine LeO.ite ?_ ?_)
      | (with_reducible refine LeO.bind ?_ (fun _ => ?_))
      | exact ih0 _ _ _
      | exact ih1 _ _ _ _ _ _
      | exact ih2 _ _ _ _ _ _
      | exact LeO.none _
      | refine LeO.ite ?_ ?_
      | refine LeO.bind ?_ (fun _ => ?_)
    · intro y0 y1 y2 y3 y4 y5
      unfold letterboxref02_Plain.j2
      repeat' first
      | (with_reducible exact ih0 _ _ _)
      | (with_reducible exact ih1 _ _ _ _ _ _)
      | (with_reducible exact ih2 _ _ _ _ _ _)
      | (with_reducible exact LeO.refl _)
      | (with_reducible exact LeO.none _)
      | (with_reducible refine LeO.ite ?_ ?_)
      | (with_reducible refine LeO.bind ?_ (fun _ => ?_))
      | exact ih0 _ _ _
      | exact ih1 _ _ _ _ _ _
      | exact ih2 _ _ _ _ _ _
      | exact LeO.none _
      | refine LeO.ite ?_ ?_
      | refine LeO.bind ?_ (fun _ => ?_)
theorem letterboxref02_Plain.mono : ∀ a0 k, LeO (letterboxref02_Plain.f k a0) (letterboxref02_Plain.f (k + 1) a0) := by
  intro a0 k
  obtain ⟨ih0, ih1, ih2⟩ := letterboxref02_Plain.mono_l k
  unfold letterboxref02_Plain.f
  repeat' first
      | (with_reducible exact ih0 _ _ _)
      | (with_reducible exact ih1 _ _ _ _ _ _)
      | (with_reducible exact ih2 _ _ _ _ _ _)
      | (with_reducible exact LeO.refl _)
      | (with_reducible exact LeO.none _)
      | (with_reducible refine LeO.ite ?_ ?_)
      | (with_reducible refine LeO.bind ?_ (fun _ => ?_))
      | exact ih0 _ _ _
      | exact ih1 _ _ _ _ _ _
      | exact ih2 _ _ _ _ _ _
      | exact LeO.none _
      | refine LeO.ite ?_ ?_
      | refine LeO.bind ?_ (fun _ => ?_)
set_option maxHeartbeats 8000000 in
set_option maxRecDepth 100000 in
theorem letterboxref02_Plain.calls (k : Nat) (a0 : ByteArray) (r : ByteArray) (w : World) (h : letterboxref02_Plain.f k a0 = some r) :
    Calls Tryd.prog 16 #[.string a0] w fun e w' => e = .returned (.string r) ∧ Drawn0 w w' := by
  have H : (letterboxref02_Plain.l0 k a0 (⟨#[]⟩ : ByteArray) 0) = some r := h
  clear h
  have H' := Aside0.mk H
  clear H
  go_enter Tryd.func16, Tryd.ntmps16
  go_wp2
  go_loopg [3, 4] k (fun kq v3 v4 w' => ∃ (x3_1 : ByteArray) (x4_1 : Int), v3 = .string x3_1 ∧ v4 = .int .i64 x4_1 ∧ Aside0 (letterboxref02_Plain.l0 kq a0 x3_1 x4_1 = some r) ∧ Aside0 (kq ≤ k) ∧ Drawn0 w w')
  case atStart => exact ⟨((⟨#[]⟩ : ByteArray)), (0), (by first | rfl | (simp; done) | (simp [*]; done)), (by first | rfl | (simp; done) | (simp [*]; done)), H', ⟨Nat.le_refl _⟩, by repeat (first | exact Drawn0.refl _ | apply Drawn0.step)⟩
  case round =>
    clear H'
    try clear c1
    obtain ⟨x3_1, x4_1, rfl, rfl, HA, HK1, ⟨m1, rfl⟩⟩ := hrel
    cases gk with
    | zero => exact absurd HA.out (by simp [letterboxref02_Plain.l0])
    | succ k1 =>
      have H := HA.out
      clear HA
      simp only [letterboxref02_Plain.l0] at H
      by_cases c2 : x4_1 < (a0.size : Int)
      · rw [if_pos c2] at H
        have c2b0 : decide (x4_1 < (a0.size : Int)) = true := decide_eq_true c2
        clear c2
        by_cases c3 : 0 ≤ x4_1
        · rw [if_pos c3] at H
          have c3b0 : decide (0 ≤ x4_1) = true := decide_eq_true c3
          clear c3
          have HC5 := Aside0.mk H
          clear H
          have p4 : 0 ≤ (x4_1 : Int) := of_decide_eq_true (by first | (with_reducible assumption) | assumption)
          have q4 : x4_1 < (a0.size : Int) := of_decide_eq_true (by first | (with_reducible assumption) | assumption)
          have hx4 := bt_at a0 x4_1
          replace p4 := eq_true p4
          replace q4 := eq_true q4
          go_upto_if 22 with (fail)
          go_cut [6] (fun v6 wc => ∃ (kq : Nat) (x6_4 : Int), v6 = .int .i64 x6_4 ∧ Aside0 (letterboxref02_Plain.j1 kq a0 x3_1 x4_1 (wrap64 (bt a0 x4_1)) x6_4 0 = some r) ∧ Aside0 (kq ≤ k1) ∧ Drawn0 w wc)
          case first =>
            have H := HC5.out
            clear HC5
            by_cases c6 : (wrap64 (x4_1 + 1)) < (a0.size : Int)
            · rw [if_pos c6] at H
              have c6b0 : decide ((wrap64 (x4_1 + 1)) < (a0.size : Int)) = true := decide_eq_true c6
              clear c6
              (first | rw [c6b0] | (simp only [i64_w, i32_w]; rw [c6b0]) | skip)
              obtain ⟨ji7, hji7⟩ : ∃ j_ : Int, (wrap64 (x4_1 + 1)) = j_ := ⟨_, rfl⟩
              replace H : (if 0 ≤ (ji7) then (letterboxref02_Plain.j1 k1 a0 x3_1 x4_1 (wrap64 (bt a0 x4_1)) (wrap64 (bt a0 (ji7))) 0) else (none)) = some r := by first | (rw [hji7] at H; exact H) | (simp only [hji7] at H ⊢; exact H)
              (try rw [hji7] at c6b0)
              have hji7w : (IntKind.i64.wrap (x4_1 + 1)) = ji7 := (i64_w _).trans hji7
              by_cases c8 : 0 ≤ (ji7)
              · rw [if_pos c8] at H
                have c8b0 : decide (0 ≤ (ji7)) = true := decide_eq_true c8
                clear c8
                have H' := Aside0.mk H
                clear H
                have p9 : 0 ≤ ((ji7) : Int) := of_decide_eq_true (by first | (with_reducible assumption) | assumption)
                have q9 : (ji7) < (a0.size : Int) := of_decide_eq_true (by first | (with_reducible assumption) | assumption)
                have hx9 := bt_at a0 (ji7)
                replace p9 := eq_true p9
                replace q9 := eq_true q9
                go_wp2
                go_meet
                case rel => exact ⟨_, (wrap64 (bt a0 (ji7))), (by first | rfl | (simp; done) | (simp only [← hji7] <;> (first | rfl | simp)) | (simp [*]; done)), (by first | exact H' | (rw [hji7]; exact H')), ⟨by have := HK1.out; first | omega | exact Nat.le_refl _⟩, by repeat (first | exact Drawn0.refl _ | apply Drawn0.step)⟩
              · rw [if_neg c8] at H
                exact absurd H (by simp)
            · rw [if_neg c6] at H
              have c6b0 : decide ((wrap64 (x4_1 + 1)) < (a0.size : Int)) = false := decide_eq_false c6
              clear c6
              (first | rw [c6b0] | (simp only [i64_w, i32_w]; rw [c6b0]) | skip)
              have H' := Aside0.mk H
              clear H
              go_wp2
              go_meet
              case rel => exact ⟨_, (0), (by first | rfl | (simp; done) | (simp [*]; done)), (by first | exact H' | (rw [hji7]; exact H')), ⟨by have := HK1.out; first | omega | exact Nat.le_refl _⟩, by repeat (first | exact Drawn0.refl _ | apply Drawn0.step)⟩
          case rest =>
            clear HC5
            try clear c1
            try clear c2
            try clear c2b0
            try clear p2
            try clear c3
            try clear c3b0
            try clear p4
            try clear q4
            try clear hx4
            try clear c6
            try clear c6b0
            try clear p6
            try clear c8
            try clear c8b0
            try clear p9
            try clear q9
            try clear hx9
            try clear p4
            try clear p9
            try clear q4
            try clear q9
            obtain ⟨kq, x6_4, rfl, HA, HJ4, ⟨mc4, rfl⟩⟩ := hcut
            cases kq with
            | zero => exact absurd HA.out (by simp [letterboxref02_Plain.j1])
            | succ kj4 =>
              have H := HA.out
              clear HA
              simp only [letterboxref02_Plain.j1] at H
              have HC10 := Aside0.mk H
              clear H
              go_upto_if 32 with (fail)
              go_cut [7] (fun v7 wc => ∃ (kq : Nat) (x7_9 : Int), v7 = .int .i64 x7_9 ∧ Aside0 (letterboxref02_Plain.j2 kq a0 x3_1 x4_1 (wrap64 (bt a0 x4_1)) x6_4 x7_9 = some r) ∧ Aside0 (kq ≤ kj4) ∧ Drawn0 w wc)
              case first =>
                have H := HC10.out
                clear HC10
                by_cases c11 : (wrap64 (x4_1 + 2)) < (a0.size : Int)
                · rw [if_pos c11] at H
                  have c11b0 : decide ((wrap64 (x4_1 + 2)) < (a0.size : Int)) = true := decide_eq_true c11
                  clear c11
                  (first | rw [c11b0] | (simp only [i64_w, i32_w]; rw [c11b0]) | skip)
                  obtain ⟨ji12, hji12⟩ : ∃ j_ : Int, (wrap64 (x4_1 + 2)) = j_ := ⟨_, rfl⟩
                  replace H : (if 0 ≤ (ji12) then (letterboxref02_Plain.j2 kj4 a0 x3_1 x4_1 (wrap64 (bt a0 x4_1)) x6_4 (wrap64 (bt a0 (ji12)))) else (none)) = some r := by first | (rw [hji12] at H; exact H) | (simp only [hji12] at H ⊢; exact H)
                  (try rw [hji12] at c11b0)
                  have hji12w : (IntKind.i64.wrap (x4_1 + 2)) = ji12 := (i64_w _).trans hji12
                  by_cases c13 : 0 ≤ (ji12)
                  · rw [if_pos c13] at H
                    have c13b0 : decide (0 ≤ (ji12)) = true := decide_eq_true c13
                    clear c13
                    have H' := Aside0.mk H
                    clear H
                    have p14 : 0 ≤ ((ji12) : Int) := of_decide_eq_true (by first | (with_reducible assumption) | assumption)
                    have q14 : (ji12) < (a0.size : Int) := of_decide_eq_true (by first | (with_reducible assumption) | assumption)
                    have hx14 := bt_at a0 (ji12)
                    replace p14 := eq_true p14
                    replace q14 := eq_true q14
                    go_wp2
                    go_meet
                    case rel => exact ⟨_, (wrap64 (bt a0 (ji12))), (by first | rfl | (simp; done) | (simp only [← hji12] <;> (first | rfl | simp)) | (simp [*]; done)), (by first | exact H' | (rw [hji12]; exact H') | (rw [hji7]; exact H')), ⟨by have := HK1.out; have := HJ4.out; first | omega | exact Nat.le_refl _⟩, by repeat (first | exact Drawn0.refl _ | apply Drawn0.step)⟩
                  · rw [if_neg c13] at H
                    exact absurd H (by simp)
                · rw [if_neg c11] at H
                  have c11b0 : decide ((wrap64 (x4_1 + 2)) < (a0.size : Int)) = false := decide_eq_false c11
                  clear c11
                  (first | rw [c11b0] | (simp only [i64_w, i32_w]; rw [c11b0]) | skip)
                  have H' := Aside0.mk H
                  clear H
                  go_wp2
                  go_meet
                  case rel => exact ⟨_, (0), (by first | rfl | (simp; done) | (simp [*]; done)), (by first | exact H' | (rw [hji12]; exact H') | (rw [hji7]; exact H')), ⟨by have := HK1.out; have := HJ4.out; first | omega | exact Nat.le_refl _⟩, by repeat (first | exact Drawn0.refl _ | apply Drawn0.step)⟩
              case rest =>
                clear HC10
                try clear c1
                try clear p1
                try clear q1
                try clear hx1
                try clear c2
                try clear c2b0
                try clear p2
                try clear c3
                try clear c3b0
                try clear c4
                try clear p4
                try clear q4
                try clear hx4
                try clear c6
                try clear c6b0
                try clear p6
                try clear c8
                try clear c8b0
                try clear p9
                try clear q9
                try clear hx9
                try clear c11
                try clear c11b0
                try clear c13
                try clear c13b0
                try clear p14
                try clear q14
                try clear hx14
                try clear p14
                try clear p2
                try clear p4
                try clear p6
                try clear p9
                try clear q14
                try clear q4
                try clear q9
                obtain ⟨kq, x7_9, rfl, HA, HJ9, ⟨mc9, rfl⟩⟩ := hcut
                cases kq with
                | zero => exact absurd HA.out (by simp [letterboxref02_Plain.j2])
                | succ kj9 =>
                  have H := HA.out
                  clear HA
                  simp only [letterboxref02_Plain.j2] at H
                  replace H := Option.bind_eq_some_iff.mp H
                  obtain ⟨t131, A150, H⟩ := H
                  replace H : ((letterboxref02_letter.f (wrap64 ((wrap64 ((Int.tmod (wrap64 (bt a0 x4_1)) 4) * 16)) + (wrap64 (Int.tdiv x6_4 16))))).bind fun t132 => (if t131.size + t132.size ≤ 9223372036854775807 then (if x3_1.size + (t131 ++ t132).size ≤ 9223372036854775807 then (if (wrap64 (x4_1 + 1)) < (a0.size : Int) then ((letterboxref02_letter.f (wrap64 ((wrap64 ((Int.tmod x6_4 16) * 4)) + (wrap64 (Int.tdiv x7_9 64))))).bind fun t133 => (if (x3_1 ++ (t131 ++ t132)).size + t133.size ≤ 9223372036854775807 then (if (wrap64 (x4_1 + 2)) < (a0.size : Int) then ((letterboxref02_letter.f (Int.tmod x7_9 64)).bind fun t134 => (if ((x3_1 ++ (t131 ++ t132)) ++ t133).size + t134.size ≤ 9223372036854775807 then (letterboxref02_Plain.l0 kj9 a0 (((x3_1 ++ (t131 ++ t132)) ++ t133) ++ t134) (wrap64 (x4_1 + 3))) else (none))) else (if ((x3_1 ++ (t131 ++ t132)) ++ t133).size + 1 ≤ 9223372036854775807 then (letterboxref02_Plain.l0 kj9 a0 (((x3_1 ++ (t131 ++ t132)) ++ t133) ++ (⟨#[61]⟩ : ByteArray)) (wrap64 (x4_1 + 3))) else (none))) else (none))) else (if (x3_1 ++ (t131 ++ t132)).size + 1 ≤ 9223372036854775807 then (if (wrap64 (x4_1 + 2)) < (a0.size : Int) then ((letterboxref02_letter.f (Int.tmod x7_9 64)).bind fun t135 => (if ((x3_1 ++ (t131 ++ t132)) ++ (⟨#[61]⟩ : ByteArray)).size + t135.size ≤ 9223372036854775807 then (letterboxref02_Plain.l0 kj9 a0 (((x3_1 ++ (t131 ++ t132)) ++ (⟨#[61]⟩ : ByteArray)) ++ t135) (wrap64 (x4_1 + 3))) else (none))) else (if ((x3_1 ++ (t131 ++ t132)) ++ (⟨#[61]⟩ : ByteArray)).size + 1 ≤ 9223372036854775807 then (letterboxref02_Plain.l0 kj9 a0 (((x3_1 ++ (t131 ++ t132)) ++ (⟨#[61]⟩ : ByteArray)) ++ (⟨#[61]⟩ : ByteArray)) (wrap64 (x4_1 + 3))) else (none))) else (none))) else (none)) else (none))) = some r := H
                  have A15 := Aside0.mk A150
                  clear A150
                  replace H := Option.bind_eq_some_iff.mp H
                  obtain ⟨t132, A160, H⟩ := H
                  replace H : (if t131.size + t132.size ≤ 9223372036854775807 then (if x3_1.size + (t131 ++ t132).size ≤ 9223372036854775807 then (if (wrap64 (x4_1 + 1)) < (a0.size : Int) then ((letterboxref02_letter.f (wrap64 ((wrap64 ((Int.tmod x6_4 16) * 4)) + (wrap64 (Int.tdiv x7_9 64))))).bind fun t133 => (if (x3_1 ++ (t131 ++ t132)).size + t133.size ≤ 9223372036854775807 then (if (wrap64 (x4_1 + 2)) < (a0.size : Int) then ((letterboxref02_letter.f (Int.tmod x7_9 64)).bind fun t134 => (if ((x3_1 ++ (t131 ++ t132)) ++ t133).size + t134.size ≤ 9223372036854775807 then (letterboxref02_Plain.l0 kj9 a0 (((x3_1 ++ (t131 ++ t132)) ++ t133) ++ t134) (wrap64 (x4_1 + 3))) else (none))) else (if ((x3_1 ++ (t131 ++ t132)) ++ t133).size + 1 ≤ 9223372036854775807 then (letterboxref02_Plain.l0 kj9 a0 (((x3_1 ++ (t131 ++ t132)) ++ t133) ++ (⟨#[61]⟩ : ByteArray)) (wrap64 (x4_1 + 3))) else (none))) else (none))) else (if (x3_1 ++ (t131 ++ t132)).size + 1 ≤ 9223372036854775807 then (if (wrap64 (x4_1 + 2)) < (a0.size : Int) then ((letterboxref02_letter.f (Int.tmod x7_9 64)).bind fun t135 => (if ((x3_1 ++ (t131 ++ t132)) ++ (⟨#[61]⟩ : ByteArray)).size + t135.size ≤ 9223372036854775807 then (letterboxref02_Plain.l0 kj9 a0 (((x3_1 ++ (t131 ++ t132)) ++ (⟨#[61]⟩ : ByteArray)) ++ t135) (wrap64 (x4_1 + 3))) else (none))) else (if ((x3_1 ++ (t131 ++ t132)) ++ (⟨#[61]⟩ : ByteArray)).size + 1 ≤ 9223372036854775807 then (letterboxref02_Plain.l0 kj9 a0 (((x3_1 ++ (t131 ++ t132)) ++ (⟨#[61]⟩ : ByteArray)) ++ (⟨#[61]⟩ : ByteArray)) (wrap64 (x4_1 + 3))) else (none))) else (none))) else (none)) else (none)) = some r := H
                  have A16 := Aside0.mk A160
                  clear A160
                  by_cases c17 : t131.size + t132.size ≤ 9223372036854775807
                  · rw [if_pos c17] at H
                    have c17b0 := eq_true c17
                    have c17b1 : decide (t131.size + t132.size ≤ 9223372036854775807) = true := decide_eq_true c17
                    try have c17b2 : (9223372036854775807 < t131.size + t132.size) = False := eq_false (Nat.not_lt.2 c17)
                    by_cases c18 : x3_1.size + (t131 ++ t132).size ≤ 9223372036854775807
                    · rw [if_pos c18] at H
                      have c18b0 := eq_true c18
                      have c18b1 : decide (x3_1.size + (t131 ++ t132).size ≤ 9223372036854775807) = true := decide_eq_true c18
                      try have c18b2 : (9223372036854775807 < x3_1.size + (t131 ++ t132).size) = False := eq_false (Nat.not_lt.2 c18)
                      try have c18b4 : (9223372036854775807 < x3_1.size + (t131.size + t132.size)) = False := eq_false (Nat.not_lt.2 (by have h_ := c18; simp only [ByteArray.size_append] at h_; exact h_))
                      by_cases c19 : (wrap64 (x4_1 + 1)) < (a0.size : Int)
                      · rw [if_pos c19] at H
                        have c19b0 : decide ((wrap64 (x4_1 + 1)) < (a0.size : Int)) = true := decide_eq_true c19
                        clear c19
                        replace H := Option.bind_eq_some_iff.mp H
                        obtain ⟨t133, A200, H⟩ := H
                        replace H : (if (x3_1 ++ (t131 ++ t132)).size + t133.size ≤ 9223372036854775807 then (if (wrap64 (x4_1 + 2)) < (a0.size : Int) then ((letterboxref02_letter.f (Int.tmod x7_9 64)).bind fun t134 => (if ((x3_1 ++ (t131 ++ t132)) ++ t133).size + t134.size ≤ 9223372036854775807 then (letterboxref02_Plain.l0 kj9 a0 (((x3_1 ++ (t131 ++ t132)) ++ t133) ++ t134) (wrap64 (x4_1 + 3))) else (none))) else (if ((x3_1 ++ (t131 ++ t132)) ++ t133).size + 1 ≤ 9223372036854775807 then (letterboxref02_Plain.l0 kj9 a0 (((x3_1 ++ (t131 ++ t132)) ++ t133) ++ (⟨#[61]⟩ : ByteArray)) (wrap64 (x4_1 + 3))) else (none))) else (none)) = some r := H
                        have A20 := Aside0.mk A200
                        clear A200
                        by_cases c21 : (x3_1 ++ (t131 ++ t132)).size + t133.size ≤ 9223372036854775807
                        · rw [if_pos c21] at H
                          have c21b0 := eq_true c21
                          have c21b1 : decide ((x3_1 ++ (t131 ++ t132)).size + t133.size ≤ 9223372036854775807) = true := decide_eq_true c21
                          try have c21b2 : (9223372036854775807 < (x3_1 ++ (t131 ++ t132)).size + t133.size) = False := eq_false (Nat.not_lt.2 c21)
                          try have c21b4 : (9223372036854775807 < x3_1.size + (t131.size + t132.size) + t133.size) = False := eq_false (Nat.not_lt.2 (by have h_ := c21; simp only [ByteArray.size_append] at h_; exact h_))
                          by_cases c22 : (wrap64 (x4_1 + 2)) < (a0.size : Int)
                          · rw [if_pos c22] at H
                            have c22b0 : decide ((wrap64 (x4_1 + 2)) < (a0.size : Int)) = true := decide_eq_true c22
                            clear c22
                            replace H := Option.bind_eq_some_iff.mp H
                            obtain ⟨t134, A230, H⟩ := H
                            replace H : (if ((x3_1 ++ (t131 ++ t132)) ++ t133).size + t134.size ≤ 9223372036854775807 then (letterboxref02_Plain.l0 kj9 a0 (((x3_1 ++ (t131 ++ t132)) ++ t133) ++ t134) (wrap64 (x4_1 + 3))) else (none)) = some r := H
                            have A23 := Aside0.mk A230
                            clear A230
                            by_cases c24 : ((x3_1 ++ (t131 ++ t132)) ++ t133).size + t134.size ≤ 9223372036854775807
                            · rw [if_pos c24] at H
                              have c24b0 := eq_true c24
                              have c24b1 : decide (((x3_1 ++ (t131 ++ t132)) ++ t133).size + t134.size ≤ 9223372036854775807) = true := decide_eq_true c24
                              try have c24b2 : (9223372036854775807 < ((x3_1 ++ (t131 ++ t132)) ++ t133).size + t134.size) = False := eq_false (Nat.not_lt.2 c24)
                              try have c24b4 : (9223372036854775807 < x3_1.size + (t131.size + t132.size) + t133.size + t134.size) = False := eq_false (Nat.not_lt.2 (by have h_ := c24; simp only [ByteArray.size_append] at h_; exact h_))
                              have H' := Aside0.mk H
                              clear H
                              go_wp2_with (first | ((with_reducible refine gate_callee (f := 19) rfl ?_); refine goesL_ (some 41) rfl rfl Tryd.func19 (by kernel_rfl) rfl #[.int .i64 (wrap64 (Int.tdiv (wrap64 (bt a0 x4_1)) 4))] rfl (by (try simp only [List.map_toArray, List.map_cons, List.map_nil]); first | done | rfl | (simp only [List.length_drop, List.length_take]; rfl)) ?_; (with_reducible refine (letterboxref02_letter.calls (wrap64 (Int.tdiv (wrap64 (bt a0 x4_1)) 4)) t131 _ A15.out).mono ?_); rintro e w' ⟨rfl, ⟨nd, rfl⟩⟩; refine ⟨_, rfl, ?_⟩) | ((with_reducible refine gate_callee (f := 19) rfl ?_); refine goesL_ (some 48) rfl rfl Tryd.func19 (by kernel_rfl) rfl #[.int .i64 (wrap64 ((wrap64 ((Int.tmod (wrap64 (bt a0 x4_1)) 4) * 16)) + (wrap64 (Int.tdiv x6_4 16))))] rfl (by (try simp only [List.map_toArray, List.map_cons, List.map_nil]); first | done | rfl | (simp only [List.length_drop, List.length_take]; rfl)) ?_; (with_reducible refine (letterboxref02_letter.calls (wrap64 ((wrap64 ((Int.tmod (wrap64 (bt a0 x4_1)) 4) * 16)) + (wrap64 (Int.tdiv x6_4 16)))) t132 _ A16.out).mono ?_); rintro e w' ⟨rfl, ⟨nd, rfl⟩⟩; refine ⟨_, rfl, ?_⟩) | ((with_reducible refine gate_callee (f := 19) rfl ?_); refine goesL_ (some 63) rfl rfl Tryd.func19 (by kernel_rfl) rfl #[.int .i64 (wrap64 ((wrap64 ((Int.tmod x6_4 16) * 4)) + (wrap64 (Int.tdiv x7_9 64))))] rfl (by (try simp only [List.map_toArray, List.map_cons, List.map_nil]); first | done | rfl | (simp only [List.length_drop, List.length_take]; rfl)) ?_; (with_reducible refine (letterboxref02_letter.calls (wrap64 ((wrap64 ((Int.tmod x6_4 16) * 4)) + (wrap64 (Int.tdiv x7_9 64)))) t133 _ A20.out).mono ?_); rintro e w' ⟨rfl, ⟨nd, rfl⟩⟩; refine ⟨_, rfl, ?_⟩) | ((with_reducible refine gate_callee (f := 19) rfl ?_); refine goesL_ (some 75) rfl rfl Tryd.func19 (by kernel_rfl) rfl #[.int .i64 (Int.tmod x7_9 64)] rfl (by (try simp only [List.map_toArray, List.map_cons, List.map_nil]); first | done | rfl | (simp only [List.length_drop, List.length_take]; rfl)) ?_; (with_reducible refine (letterboxref02_letter.calls (Int.tmod x7_9 64) t134 _ A23.out).mono ?_); rintro e w' ⟨rfl, ⟨nd, rfl⟩⟩; refine ⟨_, rfl, ?_⟩))
                              go_roundg kj9
                              case measure => have := HK1.out; have := HJ4.out; have := HJ9.out; omega
                              case rel => exact ⟨(((x3_1 ++ (t131 ++ t132)) ++ t133) ++ t134), (wrap64 (x4_1 + 3)), (by first | rfl | (simp; done) | (simp [*]; done)), (by first | rfl | (simp; done) | (simp [*]; done)), H', ⟨by have := HK1.out; have := HJ4.out; have := HJ9.out; omega⟩, by repeat (first | exact Drawn0.refl _ | apply Drawn0.step)⟩
                            · rw [if_neg c24] at H
                              exact absurd H (by simp)
                          · rw [if_neg c22] at H
                            have c22b0 : decide ((wrap64 (x4_1 + 2)) < (a0.size : Int)) = false := decide_eq_false c22
                            clear c22
                            by_cases c25 : ((x3_1 ++ (t131 ++ t132)) ++ t133).size + 1 ≤ 9223372036854775807
                            · rw [if_pos c25] at H
                              have c25b0 := eq_true c25
                              have c25b1 : decide (((x3_1 ++ (t131 ++ t132)) ++ t133).size + 1 ≤ 9223372036854775807) = true := decide_eq_true c25
                              try have c25b2 : (9223372036854775807 < ((x3_1 ++ (t131 ++ t132)) ++ t133).size + 1) = False := eq_false (Nat.not_lt.2 c25)
                              try have c25b4 : (9223372036854775807 < x3_1.size + (t131.size + t132.size) + t133.size + 1) = False := eq_false (Nat.not_lt.2 (by have h_ := c25; simp only [ByteArray.size_append] at h_; exact h_))
                              have H' := Aside0.mk H
                              clear H
                              go_wp2_with (first | ((with_reducible refine gate_callee (f := 19) rfl ?_); refine goesL_ (some 41) rfl rfl Tryd.func19 (by kernel_rfl) rfl #[.int .i64 (wrap64 (Int.tdiv (wrap64 (bt a0 x4_1)) 4))] rfl (by (try simp only [List.map_toArray, List.map_cons, List.map_nil]); first | done | rfl | (simp only [List.length_drop, List.length_take]; rfl)) ?_; (with_reducible refine (letterboxref02_letter.calls (wrap64 (Int.tdiv (wrap64 (bt a0 x4_1)) 4)) t131 _ A15.out).mono ?_); rintro e w' ⟨rfl, ⟨nd, rfl⟩⟩; refine ⟨_, rfl, ?_⟩) | ((with_reducible refine gate_callee (f := 19) rfl ?_); refine goesL_ (some 48) rfl rfl Tryd.func19 (by kernel_rfl) rfl #[.int .i64 (wrap64 ((wrap64 ((Int.tmod (wrap64 (bt a0 x4_1)) 4) * 16)) + (wrap64 (Int.tdiv x6_4 16))))] rfl (by (try simp only [List.map_toArray, List.map_cons, List.map_nil]); first | done | rfl | (simp only [List.length_drop, List.length_take]; rfl)) ?_; (with_reducible refine (letterboxref02_letter.calls (wrap64 ((wrap64 ((Int.tmod (wrap64 (bt a0 x4_1)) 4) * 16)) + (wrap64 (Int.tdiv x6_4 16)))) t132 _ A16.out).mono ?_); rintro e w' ⟨rfl, ⟨nd, rfl⟩⟩; refine ⟨_, rfl, ?_⟩) | ((with_reducible refine gate_callee (f := 19) rfl ?_); refine goesL_ (some 63) rfl rfl Tryd.func19 (by kernel_rfl) rfl #[.int .i64 (wrap64 ((wrap64 ((Int.tmod x6_4 16) * 4)) + (wrap64 (Int.tdiv x7_9 64))))] rfl (by (try simp only [List.map_toArray, List.map_cons, List.map_nil]); first | done | rfl | (simp only [List.length_drop, List.length_take]; rfl)) ?_; (with_reducible refine (letterboxref02_letter.calls (wrap64 ((wrap64 ((Int.tmod x6_4 16) * 4)) + (wrap64 (Int.tdiv x7_9 64)))) t133 _ A20.out).mono ?_); rintro e w' ⟨rfl, ⟨nd, rfl⟩⟩; refine ⟨_, rfl, ?_⟩))
                              go_roundg kj9
                              case measure => have := HK1.out; have := HJ4.out; have := HJ9.out; omega
                              case rel => exact ⟨(((x3_1 ++ (t131 ++ t132)) ++ t133) ++ (⟨#[61]⟩ : ByteArray)), (wrap64 (x4_1 + 3)), (by first | rfl | (simp; done) | (simp [*]; done)), (by first | rfl | (simp; done) | (simp [*]; done)), H', ⟨by have := HK1.out; have := HJ4.out; have := HJ9.out; omega⟩, by repeat (first | exact Drawn0.refl _ | apply Drawn0.step)⟩
                            · rw [if_neg c25] at H
                              exact absurd H (by simp)
                        · rw [if_neg c21] at H
                          exact absurd H (by simp)
                      · rw [if_neg c19] at H
                        have c19b0 : decide ((wrap64 (x4_1 + 1)) < (a0.size : Int)) = false := decide_eq_false c19
                        clear c19
                        by_cases c26 : (x3_1 ++ (t131 ++ t132)).size + 1 ≤ 9223372036854775807
                        · rw [if_pos c26] at H
                          have c26b0 := eq_true c26
                          have c26b1 : decide ((x3_1 ++ (t131 ++ t132)).size + 1 ≤ 9223372036854775807) = true := decide_eq_true c26
                          try have c26b2 : (9223372036854775807 < (x3_1 ++ (t131 ++ t132)).size + 1) = False := eq_false (Nat.not_lt.2 c26)
                          try have c26b4 : (9223372036854775807 < x3_1.size + (t131.size + t132.size) + 1) = False := eq_false (Nat.not_lt.2 (by have h_ := c26; simp only [ByteArray.size_append] at h_; exact h_))
                          by_cases c27 : (wrap64 (x4_1 + 2)) < (a0.size : Int)
                          · rw [if_pos c27] at H
                            have c27b0 : decide ((wrap64 (x4_1 + 2)) < (a0.size : Int)) = true := decide_eq_true c27
                            clear c27
                            replace H := Option.bind_eq_some_iff.mp H
                            obtain ⟨t135, A280, H⟩ := H
                            replace H : (if ((x3_1 ++ (t131 ++ t132)) ++ (⟨#[61]⟩ : ByteArray)).size + t135.size ≤ 9223372036854775807 then (letterboxref02_Plain.l0 kj9 a0 (((x3_1 ++ (t131 ++ t132)) ++ (⟨#[61]⟩ : ByteArray)) ++ t135) (wrap64 (x4_1 + 3))) else (none)) = some r := H
                            have A28 := Aside0.mk A280
                            clear A280
                            by_cases c29 : ((x3_1 ++ (t131 ++ t132)) ++ (⟨#[61]⟩ : ByteArray)).size + t135.size ≤ 9223372036854775807
                            · rw [if_pos c29] at H
                              have c29b0 := eq_true c29
                              have c29b1 : decide (((x3_1 ++ (t131 ++ t132)) ++ (⟨#[61]⟩ : ByteArray)).size + t135.size ≤ 9223372036854775807) = true := decide_eq_true c29
                              try have c29b2 : (9223372036854775807 < ((x3_1 ++ (t131 ++ t132)) ++ (⟨#[61]⟩ : ByteArray)).size + t135.size) = False := eq_false (Nat.not_lt.2 c29)
                              try have c29b4 : (9223372036854775807 < x3_1.size + (t131.size + t132.size) + 1 + t135.size) = False := eq_false (Nat.not_lt.2 (by have h_ := c29; simp only [ByteArray.size_append] at h_; exact h_))
                              have H' := Aside0.mk H
                              clear H
                              go_wp2_with (first | ((with_reducible refine gate_callee (f := 19) rfl ?_); refine goesL_ (some 41) rfl rfl Tryd.func19 (by kernel_rfl) rfl #[.int .i64 (wrap64 (Int.tdiv (wrap64 (bt a0 x4_1)) 4))] rfl (by (try simp only [List.map_toArray, List.map_cons, List.map_nil]); first | done | rfl | (simp only [List.length_drop, List.length_take]; rfl)) ?_; (with_reducible refine (letterboxref02_letter.calls (wrap64 (Int.tdiv (wrap64 (bt a0 x4_1)) 4)) t131 _ A15.out).mono ?_); rintro e w' ⟨rfl, ⟨nd, rfl⟩⟩; refine ⟨_, rfl, ?_⟩) | ((with_reducible refine gate_callee (f := 19) rfl ?_); refine goesL_ (some 48) rfl rfl Tryd.func19 (by kernel_rfl) rfl #[.int .i64 (wrap64 ((wrap64 ((Int.tmod (wrap64 (bt a0 x4_1)) 4) * 16)) + (wrap64 (Int.tdiv x6_4 16))))] rfl (by (try simp only [List.map_toArray, List.map_cons, List.map_nil]); first | done | rfl | (simp only [List.length_drop, List.length_take]; rfl)) ?_; (with_reducible refine (letterboxref02_letter.calls (wrap64 ((wrap64 ((Int.tmod (wrap64 (bt a0 x4_1)) 4) * 16)) + (wrap64 (Int.tdiv x6_4 16)))) t132 _ A16.out).mono ?_); rintro e w' ⟨rfl, ⟨nd, rfl⟩⟩; refine ⟨_, rfl, ?_⟩) | ((with_reducible refine gate_callee (f := 19) rfl ?_); refine goesL_ (some 75) rfl rfl Tryd.func19 (by kernel_rfl) rfl #[.int .i64 (Int.tmod x7_9 64)] rfl (by (try simp only [List.map_toArray, List.map_cons, List.map_nil]); first | done | rfl | (simp only [List.length_drop, List.length_take]; rfl)) ?_; (with_reducible refine (letterboxref02_letter.calls (Int.tmod x7_9 64) t135 _ A28.out).mono ?_); rintro e w' ⟨rfl, ⟨nd, rfl⟩⟩; refine ⟨_, rfl, ?_⟩))
                              go_roundg kj9
                              case measure => have := HK1.out; have := HJ4.out; have := HJ9.out; omega
                              case rel => exact ⟨(((x3_1 ++ (t131 ++ t132)) ++ (⟨#[61]⟩ : ByteArray)) ++ t135), (wrap64 (x4_1 + 3)), (by first | rfl | (simp; done) | (simp [*]; done)), (by first | rfl | (simp; done) | (simp [*]; done)), H', ⟨by have := HK1.out; have := HJ4.out; have := HJ9.out; omega⟩, by repeat (first | exact Drawn0.refl _ | apply Drawn0.step)⟩
                            · rw [if_neg c29] at H
                              exact absurd H (by simp)
                          · rw [if_neg c27] at H
                            have c27b0 : decide ((wrap64 (x4_1 + 2)) < (a0.size : Int)) = false := decide_eq_false c27
                            clear c27
                            by_cases c30 : ((x3_1 ++ (t131 ++ t132)) ++ (⟨#[61]⟩ : ByteArray)).size + 1 ≤ 9223372036854775807
                            · rw [if_pos c30] at H
                              have c30b0 := eq_true c30
                              have c30b1 : decide (((x3_1 ++ (t131 ++ t132)) ++ (⟨#[61]⟩ : ByteArray)).size + 1 ≤ 9223372036854775807) = true := decide_eq_true c30
                              try have c30b2 : (9223372036854775807 < ((x3_1 ++ (t131 ++ t132)) ++ (⟨#[61]⟩ : ByteArray)).size + 1) = False := eq_false (Nat.not_lt.2 c30)
                              try have c30b4 : (9223372036854775807 < x3_1.size + (t131.size + t132.size) + 1 + 1) = False := eq_false (Nat.not_lt.2 (by have h_ := c30; simp only [ByteArray.size_append] at h_; exact h_))
                              have H' := Aside0.mk H
                              clear H
                              go_wp2_with (first | ((with_reducible refine gate_callee (f := 19) rfl ?_); refine goesL_ (some 41) rfl rfl Tryd.func19 (by kernel_rfl) rfl #[.int .i64 (wrap64 (Int.tdiv (wrap64 (bt a0 x4_1)) 4))] rfl (by (try simp only [List.map_toArray, List.map_cons, List.map_nil]); first | done | rfl | (simp only [List.length_drop, List.length_take]; rfl)) ?_; (with_reducible refine (letterboxref02_letter.calls (wrap64 (Int.tdiv (wrap64 (bt a0 x4_1)) 4)) t131 _ A15.out).mono ?_); rintro e w' ⟨rfl, ⟨nd, rfl⟩⟩; refine ⟨_, rfl, ?_⟩) | ((with_reducible refine gate_callee (f := 19) rfl ?_); refine goesL_ (some 48) rfl rfl Tryd.func19 (by kernel_rfl) rfl #[.int .i64 (wrap64 ((wrap64 ((Int.tmod (wrap64 (bt a0 x4_1)) 4) * 16)) + (wrap64 (Int.tdiv x6_4 16))))] rfl (by (try simp only [List.map_toArray, List.map_cons, List.map_nil]); first | done | rfl | (simp only [List.length_drop, List.length_take]; rfl)) ?_; (with_reducible refine (letterboxref02_letter.calls (wrap64 ((wrap64 ((Int.tmod (wrap64 (bt a0 x4_1)) 4) * 16)) + (wrap64 (Int.tdiv x6_4 16)))) t132 _ A16.out).mono ?_); rintro e w' ⟨rfl, ⟨nd, rfl⟩⟩; refine ⟨_, rfl, ?_⟩))
                              go_roundg kj9
                              case measure => have := HK1.out; have := HJ4.out; have := HJ9.out; omega
                              case rel => exact ⟨(((x3_1 ++ (t131 ++ t132)) ++ (⟨#[61]⟩ : ByteArray)) ++ (⟨#[61]⟩ : ByteArray)), (wrap64 (x4_1 + 3)), (by first | rfl | (simp; done) | (simp [*]; done)), (by first | rfl | (simp; done) | (simp [*]; done)), H', ⟨by have := HK1.out; have := HJ4.out; have := HJ9.out; omega⟩, by repeat (first | exact Drawn0.refl _ | apply Drawn0.step)⟩
                            · rw [if_neg c30] at H
                              exact absurd H (by simp)
                        · rw [if_neg c26] at H
                          exact absurd H (by simp)
                    · rw [if_neg c18] at H
                      exact absurd H (by simp)
                  · rw [if_neg c17] at H
                    exact absurd H (by simp)
        · rw [if_neg c3] at H
          exact absurd H (by simp)
      · rw [if_neg c2] at H
        have c2b0 : decide (x4_1 < (a0.size : Int)) = false := decide_eq_false c2
        clear c2
        obtain rfl := Option.some.inj H
        go_wp2
        go_ret
        exact ⟨by first | rfl | (simp; done) | (simp [*]; done), by repeat (first | exact Drawn0.refl _ | apply Drawn0.step)⟩

/-! ### letterboxref02_Encode: function 10 -/
def letterboxref02_Encode.l0 : Nat → Int → ByteArray → ByteArray → Option (ByteArray)
  | 0, _, _, _ => none
  | k + 1, x1, x5, x6 => if (x5.size : Int) > 0 then (if x1 > (x5.size : Int) then (if 0 ≤ (x5.size : Int) then (if (x5.size : Int) ≤ (x5.size : Int) then (if (x5.extract 0 ((x5.size : Int) : Int).toNat).size + 2 ≤ 9223372036854775807 then (if x6.size + ((x5.extract 0 ((x5.size : Int) : Int).toNat) ++ (⟨#[13, 10]⟩ : ByteArray)).size ≤ 9223372036854775807 then (letterboxref02_Encode.l0 k x1 (x5.extract ((x5.size : Int) : Int).toNat x5.size) (x6 ++ ((x5.extract 0 ((x5.size : Int) : Int).toNat) ++ (⟨#[13, 10]⟩ : ByteArray)))) else (none)) else (none)) else (none)) else (none)) else (if 0 ≤ x1 then (if x1 ≤ (x5.size : Int) then (if (x5.extract 0 (x1 : Int).toNat).size + 2 ≤ 9223372036854775807 then (if x6.size + ((x5.extract 0 (x1 : Int).toNat) ++ (⟨#[13, 10]⟩ : ByteArray)).size ≤ 9223372036854775807 then (letterboxref02_Encode.l0 k x1 (x5.extract (x1 : Int).toNat x5.size) (x6 ++ ((x5.extract 0 (x1 : Int).toNat) ++ (⟨#[13, 10]⟩ : ByteArray)))) else (none)) else (none)) else (none)) else (none))) else (some x6)
def letterboxref02_Encode.f (k : Nat) (a0 : ByteArray) (a1 : Int) : Option (ByteArray) := (letterboxref02_Plain.f k a0).bind fun t136 => (if a1 < 1 then (some t136) else (letterboxref02_Encode.l0 k a1 t136 (⟨#[]⟩ : ByteArray)))
theorem letterboxref02_Encode.mono_l : ∀ k, (∀ y0 y1 y2, LeO (letterboxref02_Encode.l0 k y0 y1 y2) (letterboxref02_Encode.l0 (k + 1) y0 y1 y2))
  | 0 => fun _ _ _ r h => by simp [letterboxref02_Encode.l0] at h
  | k + 1 => by
    have ih0 := letterboxref02_Encode.mono_l k
    · intro y0 y1 y2
      unfold letterboxref02_Encode.l0
      repeat' first
      | (with_reducible exact ih0 _ _ _)
      | (with_reducible exact letterboxref02_Plain.mono _ _)
      | (with_reducible exact LeO.refl _)
      | (with_reducible exact LeO.none _)
      | (with_reducible refine LeO.ite ?_ ?_)
      | (with_reducible refine LeO.bind ?_ (fun _ => ?_))
      | exact ih0 _ _ _
      | exact letterboxref02_Plain.mono _ _
      | exact LeO.none _
      | refine LeO.ite ?_ ?_
      | refine LeO.bind ?_ (fun _ => ?_)
theorem letterboxref02_Encode.mono : ∀ a0 a1 k, LeO (letterboxref02_Encode.f k a0 a1) (letterboxref02_Encode.f (k + 1) a0 a1) := by
  intro a0 a1 k
  have ih0 := letterboxref02_Encode.mono_l k
  unfold letterboxref02_Encode.f
  repeat' first
      | (with_reducible exact ih0 _ _ _)
      | (with_reducible exact letterboxref02_Plain.mono _ _)
      | (with_reducible exact LeO.refl _)
      | (with_reducible exact LeO.none _)
      | (with_reducible refine LeO.ite ?_ ?_)
      | (with_reducible refine LeO.bind ?_ (fun _ => ?_))
      | exact ih0 _ _ _
      | exact letterboxref02_Plain.mono _ _
      | exact LeO.none _
      | refine LeO.ite ?_ ?_
      | refine LeO.bind ?_ (fun _ => ?_)
set_option maxHeartbeats 8000000 in
set_option maxRecDepth 100000 in
theorem letterboxref02_Encode.calls (k : Nat) (a0 : ByteArray) (a1 : Int) (r : ByteArray) (w : World) (h : letterboxref02_Encode.f k a0 a1 = some r) :
    Calls Tryd.prog 10 #[.string a0, .int .i64 a1] w fun e w' => e = .returned (.string r) ∧ Drawn0 w w' := by
  have H : ((letterboxref02_Plain.f k a0).bind fun t136 => (if a1 < 1 then (some t136) else (letterboxref02_Encode.l0 k a1 t136 (⟨#[]⟩ : ByteArray)))) = some r := h
  clear h
  replace H := Option.bind_eq_some_iff.mp H
  obtain ⟨t136, A30, H⟩ := H
  replace H : (if a1 < 1 then (some t136) else (letterboxref02_Encode.l0 k a1 t136 (⟨#[]⟩ : ByteArray))) = some r := H
  have A3 := Aside0.mk A30
  clear A30
  by_cases c4 : a1 < 1
  · rw [if_pos c4] at H
    have c4b0 : decide (a1 < 1) = true := decide_eq_true c4
    clear c4
    obtain rfl := Option.some.inj H
    go_enter Tryd.func10, Tryd.ntmps10
    go_wp2_with (first | ((with_reducible refine gate_callee (f := 16) rfl ?_); refine goesL_ (some 9) rfl rfl Tryd.func16 (by kernel_rfl) rfl #[.string a0] rfl (by (try simp only [List.map_toArray, List.map_cons, List.map_nil]); first | done | rfl | (simp only [List.length_drop, List.length_take]; rfl)) ?_; (with_reducible refine (letterboxref02_Plain.calls k a0 t136 _ A3.out).mono ?_); rintro e w' ⟨rfl, ⟨nd, rfl⟩⟩; refine ⟨_, rfl, ?_⟩))
    go_ret
    exact ⟨by first | rfl | (simp; done) | (simp [*]; done), by repeat (first | exact Drawn0.refl _ | apply Drawn0.step)⟩
  · rw [if_neg c4] at H
    have c4b0 : decide (a1 < 1) = false := decide_eq_false c4
    clear c4
    have H' := Aside0.mk H
    clear H
    go_enter Tryd.func10, Tryd.ntmps10
    go_wp2_with (first | ((with_reducible refine gate_callee (f := 16) rfl ?_); refine goesL_ (some 9) rfl rfl Tryd.func16 (by kernel_rfl) rfl #[.string a0] rfl (by (try simp only [List.map_toArray, List.map_cons, List.map_nil]); first | done | rfl | (simp only [List.length_drop, List.length_take]; rfl)) ?_; (with_reducible refine (letterboxref02_Plain.calls k a0 t136 _ A3.out).mono ?_); rintro e w' ⟨rfl, ⟨nd, rfl⟩⟩; refine ⟨_, rfl, ?_⟩))
    go_loopg [5, 6] k (fun kq v5 v6 w' => ∃ (x5_1 : ByteArray) (x6_1 : ByteArray), v5 = .string x5_1 ∧ v6 = .string x6_1 ∧ Aside0 (letterboxref02_Encode.l0 kq a1 x5_1 x6_1 = some r) ∧ Aside0 (kq ≤ k) ∧ Drawn0 w w')
    case atStart => exact ⟨(t136), ((⟨#[]⟩ : ByteArray)), (by first | rfl | (simp; done) | (simp [*]; done)), (by first | rfl | (simp; done) | (simp [*]; done)), H', ⟨Nat.le_refl _⟩, by repeat (first | exact Drawn0.refl _ | apply Drawn0.step)⟩
    case round =>
      clear H'
      try clear c1
      try clear p2
      try clear c4
      try clear c4b0
      obtain ⟨x5_1, x6_1, rfl, rfl, HA, HK1, ⟨m1, rfl⟩⟩ := hrel
      cases gk with
      | zero => exact absurd HA.out (by simp [letterboxref02_Encode.l0])
      | succ k1 =>
        have H := HA.out
        clear HA
        simp only [letterboxref02_Encode.l0] at H
        by_cases c5 : (x5_1.size : Int) > 0
        · rw [if_pos c5] at H
          have c5b0 : decide (0 < (x5_1.size : Int)) = true := decide_eq_true c5
          have c5b1 : decide (0 < x5_1.size) = true := decide_eq_true (by omega)
          clear c5
          by_cases c6 : a1 > (x5_1.size : Int)
          · rw [if_pos c6] at H
            have c6b0 : decide ((x5_1.size : Int) < a1) = true := decide_eq_true c6
            clear c6
            by_cases c7 : 0 ≤ (x5_1.size : Int)
            · rw [if_pos c7] at H
              have c7b0 := eq_true c7
              have c7b1 : decide (0 ≤ (x5_1.size : Int)) = true := decide_eq_true c7
              clear c7
              by_cases c8 : (x5_1.size : Int) ≤ (x5_1.size : Int)
              · rw [if_pos c8] at H
                have c8b0 := eq_true c8
                have c8b1 : decide ((x5_1.size : Int) ≤ (x5_1.size : Int)) = true := decide_eq_true c8
                clear c8
                by_cases c9 : (x5_1.extract 0 ((x5_1.size : Int) : Int).toNat).size + 2 ≤ 9223372036854775807
                · rw [if_pos c9] at H
                  have c9b0 := eq_true c9
                  have c9b1 : decide ((x5_1.extract 0 ((x5_1.size : Int) : Int).toNat).size + 2 ≤ 9223372036854775807) = true := decide_eq_true c9
                  try have c9b2 : (9223372036854775807 < (x5_1.extract 0 ((x5_1.size : Int) : Int).toNat).size + 2) = False := eq_false (Nat.not_lt.2 c9)
                  (try (have c9h := c9; simp only [ByteArray.size_append, ByteArray.size_extract, Int.toNat_natCast, Nat.sub_zero, Nat.min_self, ByteArray.extract_zero_size] at c9h; have c9b7 := eq_false (Nat.not_lt.2 c9h); clear c9h))
                  try have c9b5 : (9223372036854775807 < ((x5_1.size : Int) : Int).toNat + 2) = False := eq_false (Nat.not_lt.2 (by have h_ := c9; (try have e0_ : (x5_1.size : Int) ≤ (x5_1.size : Int) := of_decide_eq_true (by first | (with_reducible assumption) | assumption)); simp only [ByteArray.size_append, ByteArray.size_extract] at h_ ⊢; omega))
                  by_cases c10 : x6_1.size + ((x5_1.extract 0 ((x5_1.size : Int) : Int).toNat) ++ (⟨#[13, 10]⟩ : ByteArray)).size ≤ 9223372036854775807
                  · rw [if_pos c10] at H
                    have c10b0 := eq_true c10
                    have c10b1 : decide (x6_1.size + ((x5_1.extract 0 ((x5_1.size : Int) : Int).toNat) ++ (⟨#[13, 10]⟩ : ByteArray)).size ≤ 9223372036854775807) = true := decide_eq_true c10
                    try have c10b2 : (9223372036854775807 < x6_1.size + ((x5_1.extract 0 ((x5_1.size : Int) : Int).toNat) ++ (⟨#[13, 10]⟩ : ByteArray)).size) = False := eq_false (Nat.not_lt.2 c10)
                    (try (have c10h := c10; simp only [ByteArray.size_append, ByteArray.size_extract, Int.toNat_natCast, Nat.sub_zero, Nat.min_self, ByteArray.extract_zero_size, show (⟨#[13, 10]⟩ : ByteArray).size = 2 from rfl] at c10h; have c10b7 := eq_false (Nat.not_lt.2 c10h); clear c10h))
                    try have c10b5 : (9223372036854775807 < x6_1.size + (((x5_1.size : Int) : Int).toNat + 2)) = False := eq_false (Nat.not_lt.2 (by have h_ := c10; (try have e0_ : (x5_1.size : Int) ≤ (x5_1.size : Int) := of_decide_eq_true (by first | (with_reducible assumption) | assumption)); simp only [ByteArray.size_append, ByteArray.size_extract, show (⟨#[13, 10]⟩ : ByteArray).size = 2 from rfl] at h_ ⊢; omega))
                    have c11b0 := eq_true (of_decide_eq_true (by first | (with_reducible assumption) | assumption) : 0 ≤ (x5_1.size : Int))
                    have c12b0 := eq_true (of_decide_eq_true (by first | (with_reducible assumption) | assumption) : (x5_1.size : Int) ≤ (x5_1.size : Int))
                    have H' := Aside0.mk H
                    clear H
                    go_wp2
                    go_roundg k1
                    case measure => have := HK1.out; omega
                    case rel => exact ⟨(x5_1.extract ((x5_1.size : Int) : Int).toNat x5_1.size), (x6_1 ++ ((x5_1.extract 0 ((x5_1.size : Int) : Int).toNat) ++ (⟨#[13, 10]⟩ : ByteArray))), (by first | rfl | (simp; done) | (simp [*]; done)), (by first | rfl | (simp; done) | (simp [*]; done)), H', ⟨by have := HK1.out; omega⟩, by repeat (first | exact Drawn0.refl _ | apply Drawn0.step)⟩
                  · rw [if_neg c10] at H
                    exact absurd H (by simp)
                · rw [if_neg c9] at H
                  exact absurd H (by simp)
              · rw [if_neg c8] at H
                exact absurd H (by simp)
            · rw [if_neg c7] at H
              exact absurd H (by simp)
          · rw [if_neg c6] at H
            have c6b0 : decide ((x5_1.size : Int) < a1) = false := decide_eq_false c6
            clear c6
            by_cases c13 : 0 ≤ a1
            · rw [if_pos c13] at H
              have c13b0 := eq_true c13
              have c13b1 : decide (0 ≤ a1) = true := decide_eq_true c13
              clear c13
              by_cases c14 : a1 ≤ (x5_1.size : Int)
              · rw [if_pos c14] at H
                have c14b0 := eq_true c14
                have c14b1 : decide (a1 ≤ (x5_1.size : Int)) = true := decide_eq_true c14
                clear c14
                by_cases c15 : (x5_1.extract 0 (a1 : Int).toNat).size + 2 ≤ 9223372036854775807
                · rw [if_pos c15] at H
                  have c15b0 := eq_true c15
                  have c15b1 : decide ((x5_1.extract 0 (a1 : Int).toNat).size + 2 ≤ 9223372036854775807) = true := decide_eq_true c15
                  try have c15b2 : (9223372036854775807 < (x5_1.extract 0 (a1 : Int).toNat).size + 2) = False := eq_false (Nat.not_lt.2 c15)
                  (try (have c15h := c15; simp only [ByteArray.size_append, ByteArray.size_extract, Int.toNat_natCast, Nat.sub_zero, Nat.min_self, ByteArray.extract_zero_size] at c15h; have c15b7 := eq_false (Nat.not_lt.2 c15h); clear c15h))
                  try have c15b5 : (9223372036854775807 < (a1 : Int).toNat + 2) = False := eq_false (Nat.not_lt.2 (by have h_ := c15; (try have e0_ : a1 ≤ (x5_1.size : Int) := of_decide_eq_true (by first | (with_reducible assumption) | assumption)); simp only [ByteArray.size_append, ByteArray.size_extract] at h_ ⊢; omega))
                  by_cases c16 : x6_1.size + ((x5_1.extract 0 (a1 : Int).toNat) ++ (⟨#[13, 10]⟩ : ByteArray)).size ≤ 9223372036854775807
                  · rw [if_pos c16] at H
                    have c16b0 := eq_true c16
                    have c16b1 : decide (x6_1.size + ((x5_1.extract 0 (a1 : Int).toNat) ++ (⟨#[13, 10]⟩ : ByteArray)).size ≤ 9223372036854775807) = true := decide_eq_true c16
                    try have c16b2 : (9223372036854775807 < x6_1.size + ((x5_1.extract 0 (a1 : Int).toNat) ++ (⟨#[13, 10]⟩ : ByteArray)).size) = False := eq_false (Nat.not_lt.2 c16)
                    (try (have c16h := c16; simp only [ByteArray.size_append, ByteArray.size_extract, Int.toNat_natCast, Nat.sub_zero, Nat.min_self, ByteArray.extract_zero_size, show (⟨#[13, 10]⟩ : ByteArray).size = 2 from rfl] at c16h; have c16b7 := eq_false (Nat.not_lt.2 c16h); clear c16h))
                    try have c16b5 : (9223372036854775807 < x6_1.size + ((a1 : Int).toNat + 2)) = False := eq_false (Nat.not_lt.2 (by have h_ := c16; (try have e0_ : a1 ≤ (x5_1.size : Int) := of_decide_eq_true (by first | (with_reducible assumption) | assumption)); simp only [ByteArray.size_append, ByteArray.size_extract, show (⟨#[13, 10]⟩ : ByteArray).size = 2 from rfl] at h_ ⊢; omega))
                    have c17b0 := eq_true (of_decide_eq_true (by first | (with_reducible assumption) | assumption) : 0 ≤ a1)
                    have c18b0 := eq_true (of_decide_eq_true (by first | (with_reducible assumption) | assumption) : a1 ≤ (x5_1.size : Int))
                    have H' := Aside0.mk H
                    clear H
                    go_wp2
                    go_roundg k1
                    case measure => have := HK1.out; omega
                    case rel => exact ⟨(x5_1.extract (a1 : Int).toNat x5_1.size), (x6_1 ++ ((x5_1.extract 0 (a1 : Int).toNat) ++ (⟨#[13, 10]⟩ : ByteArray))), (by first | rfl | (simp; done) | (simp [*]; done)), (by first | rfl | (simp; done) | (simp [*]; done)), H', ⟨by have := HK1.out; omega⟩, by repeat (first | exact Drawn0.refl _ | apply Drawn0.step)⟩
                  · rw [if_neg c16] at H
                    exact absurd H (by simp)
                · rw [if_neg c15] at H
                  exact absurd H (by simp)
              · rw [if_neg c14] at H
                exact absurd H (by simp)
            · rw [if_neg c13] at H
              exact absurd H (by simp)
        · rw [if_neg c5] at H
          have c5b0 : decide (0 < (x5_1.size : Int)) = false := decide_eq_false c5
          have c5b1 : decide (0 < x5_1.size) = false := decide_eq_false (by omega)
          clear c5
          obtain rfl := Option.some.inj H
          go_wp2
          go_ret
          exact ⟨by first | rfl | (simp; done) | (simp [*]; done), by repeat (first | exact Drawn0.refl _ | apply Drawn0.step)⟩

/-! ### letterboxlaw02_B64Encodes: function 3 -/
def letterboxlaw02_B64Encodes.f (k : Nat) (l0 : List Int) (a1 : Int) : Option (Bool) := (letterboxlaw02_awake.f).bind fun t137 => (if t137 = true then (if (l0.length : Int) > 300 then (some true) else ((b64_Encode.f l0 a1).bind fun t138 => ((letterboxref02_Encode.f k (strOfNums l0) a1).bind fun t141 => (some ((strOfNums t138).toList == t141.toList))))) else (some false))
theorem letterboxlaw02_B64Encodes.mono : ∀ a0 a1 k, LeO (letterboxlaw02_B64Encodes.f k a0 a1) (letterboxlaw02_B64Encodes.f (k + 1) a0 a1) := by
  intro a0 a1 k
  unfold letterboxlaw02_B64Encodes.f
  repeat' first
      | (with_reducible exact letterboxref02_Encode.mono _ _ _)
      | (with_reducible exact LeO.refl _)
      | (with_reducible exact LeO.none _)
      | (with_reducible refine LeO.ite ?_ ?_)
      | (with_reducible refine LeO.bind ?_ (fun _ => ?_))
      | exact letterboxref02_Encode.mono _ _ _
      | exact LeO.none _
      | refine LeO.ite ?_ ?_
      | refine LeO.bind ?_ (fun _ => ?_)
def letterboxlaw02_B64Encodes.T6 : Bool × List (List Nat × List Nat) := (true, [([], []), ([], []), ([0, 1], [0, 1]), ([2], [2]), ([], []), ([4], [4]), ([], []), ([5, 6, 2], [5, 6]), ([3, 7], [3, 7]), ([8, 7, 0, 1, 2, 3, 4, 5, 6, 7, 8], [8])])
def letterboxlaw02_B64Encodes.B6 : List Nat := [0, 0, 3, 7, 0, 16, 0, 119, 255, 511]
theorem letterboxlaw02_B64Encodes.tab6 : rtab .any (opsOf Tryd.f3 6) = letterboxlaw02_B64Encodes.T6 := by kernel_rfl
theorem letterboxlaw02_B64Encodes.bits6 : waitsOk letterboxlaw02_B64Encodes.T6.2 letterboxlaw02_B64Encodes.B6 = true := by kernel_rfl
set_option maxHeartbeats 8000000 in
set_option maxRecDepth 100000 in
theorem letterboxlaw02_B64Encodes.calls (k : Nat) (A0 : Option Addr) (c0 : Nat) (l0 : List Int) (a1 : Int) (r : Bool) (w : World) (hr0 : Kd.C (Kd.int .u8) w A0 l0.length l0) (hc0 : l0.length ≤ c0) (h : letterboxlaw02_B64Encodes.f k l0 a1 = some r) (hL0 : b64_Letters w := by assumption) :
    Calls Tryd.prog 3 #[.slice A0 l0.length c0, .int .i64 a1] w fun e w' => e = .returned (.bool r) ∧ Below w.heap.size w w' := by
  have HR0 := Aside0.mk hr0
  have HC0 := Aside0.mk hc0
  clear hr0 hc0
  have HB := Aside0.mk (Below.refl w.heap.size w)
  have H : ((letterboxlaw02_awake.f).bind fun t137 => (if t137 = true then (if (l0.length : Int) > 300 then (some true) else ((b64_Encode.f l0 a1).bind fun t138 => ((letterboxref02_Encode.f k (strOfNums l0) a1).bind fun t141 => (some ((strOfNums t138).toList == t141.toList))))) else (some false))) = some r := h
  clear h
  replace H := Option.bind_eq_some_iff.mp H
  obtain ⟨t137, A30, H⟩ := H
  replace H : (if t137 = true then (if (l0.length : Int) > 300 then (some true) else ((b64_Encode.f l0 a1).bind fun t138 => ((letterboxref02_Encode.f k (strOfNums l0) a1).bind fun t141 => (some ((strOfNums t138).toList == t141.toList))))) else (some false)) = some r := H
  have A3 := Aside0.mk A30
  clear A30
  by_cases c4 : t137 = true
  · subst c4
    have H1 : (if (l0.length : Int) > 300 then (some true) else ((b64_Encode.f l0 a1).bind fun t138 => ((letterboxref02_Encode.f k (strOfNums l0) a1).bind fun t141 => (some ((strOfNums t138).toList == t141.toList))))) = some r := by rw [if_pos rfl] at H; exact H
    clear H
    have H := H1
    clear H1
    by_cases c5 : (l0.length : Int) > 300
    · rw [if_pos c5] at H
      have c5b0 : decide (300 < (l0.length : Int)) = true := decide_eq_true c5
      have c5b1 : decide (300 < l0.length) = true := decide_eq_true (by omega)
      clear c5
      obtain rfl := Option.some.inj H
      go_enter Tryd.func3, Tryd.ntmps3
      go_wp2_with (first | ((with_reducible refine gate_callee (f := 8) rfl ?_); refine goesL_ (some 6) rfl rfl Tryd.func8 (by kernel_rfl) rfl #[] rfl (by (try simp only [List.map_toArray, List.map_cons, List.map_nil]); first | done | rfl | (simp only [List.length_drop, List.length_take]; rfl)) ?_; (with_reducible refine (letterboxlaw02_awake.calls  true _ A3.out).mono ?_); rintro e w6 ⟨rfl, hb⟩; refine ⟨_, rfl, ?_⟩; have n0_ := Aside0.mk (below_step (by repeat (first | (with_reducible first | exact HB.out | apply below_alloc | apply pw_below_drewN | apply below_drew1) | exact HB.out)) hb); clear HB; have HB := n0_; clear n0_; (try clear hb); (try clear hb2); (try clear hk); (try clear hi)))
      go_ret
      exact ⟨by first | rfl | (simp [errW_none, errW_some] <;> rfl) | (simp [*, errW_none, errW_some] <;> rfl), by repeat (first | (with_reducible first | exact HB.out | apply below_alloc | apply pw_below_drewN | apply below_drew1) | exact HB.out)⟩
    · rw [if_neg c5] at H
      have c5b0 : decide (300 < (l0.length : Int)) = false := decide_eq_false c5
      have c5b1 : decide (300 < l0.length) = false := decide_eq_false (by omega)
      clear c5
      replace H := Option.bind_eq_some_iff.mp H
      obtain ⟨t138, A70, H⟩ := H
      replace H : ((letterboxref02_Encode.f k (strOfNums l0) a1).bind fun t141 => (some ((strOfNums t138).toList == t141.toList))) = some r := H
      have A7 := Aside0.mk A70
      clear A70
      replace H := Option.bind_eq_some_iff.mp H
      obtain ⟨t141, A80, H⟩ := H
      replace H : (some ((strOfNums t138).toList == t141.toList)) = some r := H
      have A8 := Aside0.mk A80
      clear A80
      obtain rfl := Option.some.inj H
      go_enter Tryd.func3, Tryd.ntmps3
      try go_wp2_with (first | ((with_reducible refine gate_callee (f := 8) rfl ?_); refine goesL_ (some 6) rfl rfl Tryd.func8 (by kernel_rfl) rfl #[] rfl (by (try simp only [List.map_toArray, List.map_cons, List.map_nil]); first | done | rfl | (simp only [List.length_drop, List.length_take]; rfl)) ?_; (with_reducible refine (letterboxlaw02_awake.calls  true _ A3.out).mono ?_); rintro e w9 ⟨rfl, hb⟩; refine ⟨_, rfl, ?_⟩; have n0_ := Aside0.mk (below_step (by repeat (first | (with_reducible first | exact HB.out | apply below_alloc | apply pw_below_drewN | apply below_drew1) | exact HB.out)) hb); clear HB; have HB := n0_; clear n0_; (try clear hb); (try clear hb2); (try clear hk); (try clear hi)))
      have n0_ := Aside0.mk (below_drew1 HB.out)
      clear HB
      have HB := n0_
      clear n0_
      refine start_ (n := 10) (S := fun w' => (convert 22 9 (.slice A0 l0.length c0)).run Tryd.prog w' = .ok (.string (strOfNums l0)) w') (ds := []) #[false, false, false, false, false, false, false, false, false, false] (by kernel_rfl) rfl rfl ((Kd.C_string (P := Tryd.prog) (A := A0) (c := c0) Tryd.underlying22 Tryd.underlying5 Tryd.underlying9 (Kd.C_below HR0.out (by repeat (first | (with_reducible first | exact HB.out | apply below_alloc | apply pw_below_drewN | apply below_drew1) | exact HB.out))))) (fun hHeld => ?_); refine with_tabW letterboxlaw02_B64Encodes.tab6 letterboxlaw02_B64Encodes.bits6 (fun HT_ HW_ => ?_)
      generalize w9.drew = w10 at HB hHeld ⊢
      refine pure_ (i := 0) (N := some 12) (v := ?_) (a' := ?_) #[true, false, false, false, false, false, false, false, false, false] rfl rfl (any_of HT_.out (by kernel_rfl)) (fun _ _ _ h => h) (Or.inl ⟨by rfl, ?_⟩) ?_ ?_
      rotate_left
      · intro w'
        go_simp
        with_reducible rfl
      rotate_left
      · simp only [Act.put, List.setIfInBounds_toArray, List.set_cons_zero, List.set_cons_succ, i64_w, i32_w]
        rfl
      refine pure_ (i := 1) (N := some 13) (v := ?_) (a' := ?_) #[true, true, false, false, false, false, false, false, false, false] rfl rfl (any_of HT_.out (by kernel_rfl)) (fun _ _ _ h => h) (Or.inl ⟨by rfl, ?_⟩) ?_ ?_
      rotate_left
      · intro w'
        go_simp
        with_reducible rfl
      rotate_left
      · simp only [Act.put, List.setIfInBounds_toArray, List.set_cons_zero, List.set_cons_succ, i64_w, i32_w]
        rfl
      refine pure_ (i := 4) (N := some 16) (v := ?_) (a' := ?_) #[true, true, false, false, true, false, false, false, false, false] rfl rfl (any_of HT_.out (by kernel_rfl)) (fun _ _ _ h => h) (Or.inl ⟨by rfl, ?_⟩) ?_ ?_
      rotate_left
      · intro w'
        go_simp
        with_reducible rfl
      rotate_left
      · simp only [Act.put, List.setIfInBounds_toArray, List.set_cons_zero, List.set_cons_succ, i64_w, i32_w]
        rfl
      refine pure_ (i := 6) (N := some 18) (v := ?_) (a' := ?_) #[true, true, false, false, true, false, true, false, false, false] rfl rfl (any_of HT_.out (by kernel_rfl)) (fun _ _ _ h => h) (Or.inl ⟨by rfl, ?_⟩) ?_ ?_
      rotate_left
      · intro w'
        go_simp
        with_reducible rfl
      rotate_left
      · simp only [Act.put, List.setIfInBounds_toArray, List.set_cons_zero, List.set_cons_succ, i64_w, i32_w]
        rfl
      refine take_ (i := 5) (N := some 17) (v := ?_) (a' := ?_) #[true, true, false, false, true, true, true, false, false, false] rfl rfl (take_ofW HT_.out HW_.out (by kernel_rfl)) (fun _ _ _ h => h) (Or.inl ⟨by rfl, ?_⟩) hHeld ?_ ?_
      rotate_left
      · intro w' s0
        go_simp
        with_reducible rfl
      rotate_left
      · simp only [Act.put, List.setIfInBounds_toArray, List.set_cons_zero, List.set_cons_succ, i64_w, i32_w]
        rfl
      refine one_ (i := 2) (N := some 14) #[true, true, true, false, true, true, true, false, false, false] rfl rfl (one_of HT_.out (by kernel_rfl)) (by decide) (fun K hK => ?_)
      refine goes_ Tryd.func9 (by kernel_rfl) rfl #[.slice A0 l0.length c0, .int .i64 a1] (by rfl) rfl rfl (by (try simp only [List.map_toArray, List.map_cons, List.map_nil]); first | done | rfl | (simp only [List.length_drop, List.length_take]; rfl)) ?_
      with_reducible refine (b64_Encode.calls _ _ l0 a1 t138 _ ?side1 ?side2 A7.out).mono ?_
      (case side1 => repeat (first | exact (Kd.C_below HR0.out HB.out) | (with_reducible refine Kd.C_alloc ?_ _) | (with_reducible refine Kd.C_drewN ?_ _) | (with_reducible refine Kd.C_drew ?_)))
      (case side2 => exact HC0.out)
      rintro e w11 ⟨v139, rfl, ho0, hb⟩
      refine ⟨_, rfl, ?_⟩
      have n0_ := Aside0.mk (Kd.R_lower ho0 (below_size (by repeat (first | (with_reducible first | exact HB.out | apply below_alloc | apply pw_below_drewN | apply below_drew1) | exact HB.out))))
      have n1_ := Aside0.mk (below_step (by repeat (first | (with_reducible first | exact HB.out | apply below_alloc | apply pw_below_drewN | apply below_drew1) | exact HB.out)) hb)
      clear HB
      have HO140 := n0_
      have HB := n1_
      clear n0_ n1_
      (try clear hb)
      (try clear hb2)
      (try clear hk)
      (try clear hi)
      (try clear ho0)
      refine hK.out _ _ ((Kd.C_string (P := Tryd.prog) (A := A0) (c := c0) Tryd.underlying22 Tryd.underlying5 Tryd.underlying9 (Kd.C_below HR0.out (by repeat (first | (with_reducible first | exact HB.out | apply below_alloc | apply pw_below_drewN | apply below_drew1) | exact HB.out))))) (fun hHeld => ?_)
      clear hK K
      refine norm_ (a' := ?_) ?_ ?_
      rotate_left
      · show Act.put _ (some 14) _ = _
        simp only [Act.put, List.setIfInBounds_toArray, List.set_cons_zero, List.set_cons_succ, i64_w, i32_w]
        rfl
      refine join_ (σ := Unit) 2 #[true, true, true, true, true, true, true, true, false, false] (fun s_ => [(15, .string (strOfNums t138)), (19, .string t141)]) (fun s_ w' => ((convert 22 9 (.slice A0 l0.length c0)).run Tryd.prog w' = .ok (.string (strOfNums l0)) w') ∧ (Kd.R (Kd.int .u8) 5 w' w.heap.size (fun _ => True) v139 t138) ∧ (Below w.heap.size w w')) ?_ ?_
      rotate_left
      · intro hCont
        refine two_ (i := 3) (j := 7) (Ni := some 15) (Nj := some 19) #[true, true, true, true, true, true, true, false, false, false] #[true, true, true, false, true, true, true, true, false, false] rfl rfl rfl rfl (two_of HT_.out (by kernel_rfl)) (by decide) (by decide) (fun K hK => ?_) (fun K hK => ?_)
        · skip
          have hcv12 := own_string (P := Tryd.prog) Tryd.underlying22 Tryd.underlying5 Tryd.underlying9 (Kd.own_of_R HO140.out)
          (try have hcv12d := fun n_ : Nat => own_string (P := Tryd.prog) Tryd.underlying22 Tryd.underlying5 Tryd.underlying9 (Kd.own_of_R (Kd.R_drewN HO140.out n_)))
          refine value_ (w1 := ?_) (v := ?_) (by rfl) rfl ?_ ?_
          rotate_left 2
          · go_simp
            constructor
            · rfl
            · rfl
          clear hcv12
          refine hK.out _ _ ((Kd.C_string (P := Tryd.prog) (A := A0) (c := c0) Tryd.underlying22 Tryd.underlying5 Tryd.underlying9 (Kd.C_below HR0.out (by repeat (first | (with_reducible first | exact HB.out | apply below_alloc | apply pw_below_drewN | apply below_drew1) | exact HB.out))))) (fun hHeld => ?_)
          clear hK K
          refine norm_ (a' := ?_) ?_ ?_
          rotate_left
          · show Act.put _ (some 15) _ = _
            simp only [Act.put, List.setIfInBounds_toArray, List.set_cons_zero, List.set_cons_succ, i64_w, i32_w]
            rfl
          refine one_ (i := 7) (N := some 19) #[true, true, true, true, true, true, true, true, false, false] rfl rfl (one_of HT_.out (by kernel_rfl)) (by decide) (fun K hK => ?_)
          refine goes_ Tryd.func10 (by kernel_rfl) rfl #[.string (strOfNums l0), .int .i64 a1] (by rfl) rfl rfl (by (try simp only [List.map_toArray, List.map_cons, List.map_nil]); first | done | rfl | (simp only [List.length_drop, List.length_take]; rfl)) ?_
          with_reducible refine (letterboxref02_Encode.calls k (strOfNums l0) a1 t141 _ A8.out).mono ?_
          rintro e w' ⟨rfl, ⟨nd, rfl⟩⟩
          refine ⟨_, rfl, ?_⟩
          refine hK.out _ _ ((Kd.C_string (P := Tryd.prog) (A := A0) (c := c0) Tryd.underlying22 Tryd.underlying5 Tryd.underlying9 (Kd.C_below HR0.out (by repeat (first | (with_reducible first | exact HB.out | apply below_alloc | apply pw_below_drewN | apply below_drew1) | exact HB.out))))) (fun hHeld => ?_)
          clear hK K
          refine norm_ (a' := ?_) ?_ ?_
          rotate_left
          · show Act.put _ (some 19) _ = _
            simp only [Act.put, List.setIfInBounds_toArray, List.set_cons_zero, List.set_cons_succ, i64_w, i32_w]
            rfl
          exact norm_ (by simp only [putAll, Act.put, List.setIfInBounds_toArray, List.set_cons_zero, List.set_cons_succ]) (hCont () _ ⟨hHeld, (by (with_reducible repeat (first | apply Kd.R_alloc | apply Kd.R_drewN | apply Kd.R_drew)); exact HO140.out), (by repeat (first | (with_reducible first | exact HB.out | apply below_alloc | apply pw_below_drewN | apply below_drew1) | exact HB.out))⟩)
        · skip
          refine goes_ Tryd.func10 (by kernel_rfl) rfl #[.string (strOfNums l0), .int .i64 a1] (by rfl) rfl rfl (by (try simp only [List.map_toArray, List.map_cons, List.map_nil]); first | done | rfl | (simp only [List.length_drop, List.length_take]; rfl)) ?_
          with_reducible refine (letterboxref02_Encode.calls k (strOfNums l0) a1 t141 _ A8.out).mono ?_
          rintro e w' ⟨rfl, ⟨nd, rfl⟩⟩
          refine ⟨_, rfl, ?_⟩
          refine hK.out _ _ ((Kd.C_string (P := Tryd.prog) (A := A0) (c := c0) Tryd.underlying22 Tryd.underlying5 Tryd.underlying9 (Kd.C_below HR0.out (by repeat (first | (with_reducible first | exact HB.out | apply below_alloc | apply pw_below_drewN | apply below_drew1) | exact HB.out))))) (fun hHeld => ?_)
          clear hK K
          refine norm_ (a' := ?_) ?_ ?_
          rotate_left
          · show Act.put _ (some 19) _ = _
            simp only [Act.put, List.setIfInBounds_toArray, List.set_cons_zero, List.set_cons_succ, i64_w, i32_w]
            rfl
          refine one_ (i := 3) (N := some 15) #[true, true, true, true, true, true, true, true, false, false] rfl rfl (one_of HT_.out (by kernel_rfl)) (by decide) (fun K hK => ?_)
          have hcv12 := own_string (P := Tryd.prog) Tryd.underlying22 Tryd.underlying5 Tryd.underlying9 (Kd.own_of_R HO140.out)
          (try have hcv12d := fun n_ : Nat => own_string (P := Tryd.prog) Tryd.underlying22 Tryd.underlying5 Tryd.underlying9 (Kd.own_of_R (Kd.R_drewN HO140.out n_)))
          refine value_ (w1 := ?_) (v := ?_) (by rfl) rfl ?_ ?_
          rotate_left 2
          · go_simp
            constructor
            · rfl
            · rfl
          clear hcv12
          refine hK.out _ _ ((Kd.C_string (P := Tryd.prog) (A := A0) (c := c0) Tryd.underlying22 Tryd.underlying5 Tryd.underlying9 (Kd.C_below HR0.out (by repeat (first | (with_reducible first | exact HB.out | apply below_alloc | apply pw_below_drewN | apply below_drew1) | exact HB.out))))) (fun hHeld => ?_)
          clear hK K
          refine norm_ (a' := ?_) ?_ ?_
          rotate_left
          · show Act.put _ (some 15) _ = _
            simp only [Act.put, List.setIfInBounds_toArray, List.set_cons_zero, List.set_cons_succ, i64_w, i32_w]
            rfl
          exact norm_ (by simp only [putAll, Act.put, List.setIfInBounds_toArray, List.set_cons_zero, List.set_cons_succ]) (hCont () _ ⟨hHeld, (by (with_reducible repeat (first | apply Kd.R_alloc | apply Kd.R_drewN | apply Kd.R_drew)); exact HO140.out), (by repeat (first | (with_reducible first | exact HB.out | apply below_alloc | apply pw_below_drewN | apply below_drew1) | exact HB.out))⟩)
      rintro _ w13 ⟨hS_, h0_, h1_⟩
      have n0_ : Aside0 (Kd.R (Kd.int .u8) 5 w13 w.heap.size (fun _ => True) v139 t138) := ⟨h0_⟩
      have n1_ : Aside0 (Below w.heap.size w w13) := ⟨h1_⟩
      clear HB
      clear h0_ h1_
      have HO140 := n0_
      have HB := n1_
      clear n0_ n1_
      have hHeld : (convert 22 9 (.slice A0 l0.length c0)).run Tryd.prog w13 = .ok (.string (strOfNums l0)) w13 := hS_
      refine norm_ (a' := ?_) ?_ ?_
      rotate_left
      · simp only [putAll, Act.put, List.setIfInBounds_toArray, List.set_cons_zero, List.set_cons_succ]
        rfl
      refine pure_ (i := 8) (N := some 20) (v := ?_) (a' := ?_) #[true, true, true, true, true, true, true, true, true, false] rfl rfl (any_of HT_.out (by kernel_rfl)) (fun _ _ _ h => h) (Or.inl ⟨by rfl, ?_⟩) ?_ ?_
      rotate_left
      · intro w'
        go_simp
        with_reducible rfl
      rotate_left
      · simp only [Act.put, List.setIfInBounds_toArray, List.set_cons_zero, List.set_cons_succ, i64_w, i32_w]
        rfl
      refine pure_ (i := 9) (N := some 4) (v := ?_) (a' := ?_) #[true, true, true, true, true, true, true, true, true, true] rfl rfl (any_of HT_.out (by kernel_rfl)) (fun _ _ _ h => h) (Or.inl ⟨by rfl, ?_⟩) ?_ ?_
      rotate_left
      · intro w'
        go_simp
        with_reducible rfl
      rotate_left
      · simp only [Act.put, List.setIfInBounds_toArray, List.set_cons_zero, List.set_cons_succ, i64_w, i32_w]
        rfl
      refine done_ (done_of HT_.out (by kernel_rfl)) ?_
      try go_wp2
      go_ret
      exact ⟨by first | rfl | (simp [errW_none, errW_some] <;> rfl) | (simp [*, errW_none, errW_some] <;> rfl), by repeat (first | (with_reducible first | exact HB.out | apply below_alloc | apply pw_below_drewN | apply below_drew1) | exact HB.out)⟩
  · replace c4 := Bool.eq_false_iff.mpr c4
    subst c4
    have H1 : (some false) = some r := by rw [if_neg (show ¬ (false = true) by decide)] at H; exact H
    clear H
    have H := H1
    clear H1
    obtain rfl := Option.some.inj H
    go_enter Tryd.func3, Tryd.ntmps3
    go_wp2_with (first | ((with_reducible refine gate_callee (f := 8) rfl ?_); refine goesL_ (some 6) rfl rfl Tryd.func8 (by kernel_rfl) rfl #[] rfl (by (try simp only [List.map_toArray, List.map_cons, List.map_nil]); first | done | rfl | (simp only [List.length_drop, List.length_take]; rfl)) ?_; (with_reducible refine (letterboxlaw02_awake.calls  false _ A3.out).mono ?_); rintro e w14 ⟨rfl, hb⟩; refine ⟨_, rfl, ?_⟩; have n0_ := Aside0.mk (below_step (by repeat (first | (with_reducible first | exact HB.out | apply below_alloc | apply pw_below_drewN | apply below_drew1) | exact HB.out)) hb); clear HB; have HB := n0_; clear n0_; (try clear hb); (try clear hb2); (try clear hk); (try clear hi)))
    go_ret
    exact ⟨by first | rfl | (simp [errW_none, errW_some] <;> rfl) | (simp [*, errW_none, errW_some] <;> rfl), by repeat (first | (with_reducible first | exact HB.out | apply below_alloc | apply pw_below_drewN | apply below_drew1) | exact HB.out)⟩

/-- THE ONE PURE STATEMENT of letterboxlaw02_B64Encodes: yours. -/
def letterboxlaw02_B64Encodes.Pure : Prop := ∀ (l0 : List Int) (a1 : Int), l0.length ≤ maxLen → l0.length * 1 ≤ 140737488351232 → (∀ x ∈ l0, (Lit.int .u8 x).wf = true) → (Lit.int .i64 a1).wf = true → ∃ k, letterboxlaw02_B64Encodes.f k l0 a1 = some true
theorem letterboxlaw02_B64Encodes.walk (P : letterboxlaw02_B64Encodes.Pure) (a0 : Option Addr) (len0 cap0 : Nat) (z0 : List Int) (a1 : Int) (w : World) (w0 : (a0 = none ∧ len0 = 0 ∧ cap0 = 0 ∧ z0 = []) ∨ ∃ x, a0 = some x ∧ len0 ≤ cap0 ∧ cap0 ≤ maxLen ∧ z0.length = cap0 ∧ (∀ i, i < z0.length → w.cell? (x.add i) = some (.int .u8 (z0.getD i 0))) ∧ ∀ n ∈ z0, (Lit.int .u8 n).wf = true) (y0 : len0 * 1 ≤ 140737488351232) (w1 : (Lit.int .i64 a1).wf = true) (hL0 : b64_Letters w) :
    Calls Tryd.prog 3 #[.slice a0 len0 cap0, .int .i64 a1] w fun e w' => e = .returned (.bool true) ∧ Below w.heap.size w w' := by
  obtain ⟨l0, rfl, hr0, hm0, hw0, hc0⟩ := ReadsInt.ofRowC w0
  obtain ⟨k, h⟩ := P l0 a1 hm0 y0 hw0 w1
  refine (letterboxlaw02_B64Encodes.calls k _ _ l0 a1 true w (Kd.C_of_reads (d := (0 : Int)) (h1 := fun _ => rfl) hr0) hc0 h).mono ?_
  rintro e w' ⟨rfl, hd⟩
  exact ⟨rfl, hd⟩

end Go.Proofs.YtnmojlolgioijaaDoor.P
