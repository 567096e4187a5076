-- Written by a program of this session (wip/tools/mk.sh) for this claim: it runs the kit's print with contracts of our own. Lean checks it.
import Derived.Test.YtoihcdahloddkaaDoorPx0
import Derived.Test.YtoihcdahloddkaaDoorPx2
namespace Go.Proofs.YtoihcdahloddkaaDoor.P
open Go.RowKit Go.Proofs.YtoihcdahloddkaaDoorW.PrintWords Go.Proofs.YtoihcdahloddkaaDoorW.PrintLast Go.Proofs.YtoihcdahloddkaaDoorW.PrintMore
attribute [-simp] Int.tmod_tmod_of_dvd
attribute [local go_sem] max2_int min2_int max_two min_two max_three min_three max_four min_four   -- for this text's walks alone
set_option linter.unusedVariables false
set_option linter.unusedSimpArgs false

/-! ### letterboxref08_Char: function 18 -/
mutual
def letterboxref08_Char.j0 : Nat → ByteArray → Int → Int → Bool → Option (Int × Int)
  | 0, _, _, _, _ => none
  | k + 1, x0, x1, x6, x27 => if x27 = true then (if 0 ≤ (wrap64 (x1 + 1)) then (if (wrap64 (x1 + 1)) < (x0.size : Int) then (some (wrap64 ((wrap64 ((wrap64 ((wrap64 (x6 - 192)) * 64)) + (wrap64 (bt x0 (wrap64 (x1 + 1)))))) - 128), 2)) else (none)) else (none)) else (if x6 ≥ 224 then (if x6 < 240 then ((letterboxref08_tail.f x0 (wrap64 (x1 + 1))).bind fun t143 => (if t143 = true then ((letterboxref08_tail.f x0 (wrap64 (x1 + 2))).bind fun t144 => (letterboxref08_Char.j1 k x0 x1 x6 t144)) else (letterboxref08_Char.j1 k x0 x1 x6 false))) else (letterboxref08_Char.j1 k x0 x1 x6 false)) else (letterboxref08_Char.j1 k x0 x1 x6 false))
def letterboxref08_Char.j1 : Nat → ByteArray → Int → Int → Bool → Option (Int × Int)
  | 0, _, _, _, _ => none
  | k + 1, x0, x1, x6, x55 => if x55 = true then (if 0 ≤ (wrap64 (x1 + 1)) then (if (wrap64 (x1 + 1)) < (x0.size : Int) then (if 0 ≤ (wrap64 (x1 + 2)) then (if (wrap64 (x1 + 2)) < (x0.size : Int) then (if (wrap64 ((wrap64 ((wrap64 ((wrap64 ((wrap64 (x6 - 224)) * 4096)) + (wrap64 ((wrap64 ((wrap64 (bt x0 (wrap64 (x1 + 1)))) - 128)) * 64)))) + (wrap64 (bt x0 (wrap64 (x1 + 2)))))) - 128)) ≥ 2048 then (if (wrap64 ((wrap64 ((wrap64 ((wrap64 ((wrap64 (x6 - 224)) * 4096)) + (wrap64 ((wrap64 ((wrap64 (bt x0 (wrap64 (x1 + 1)))) - 128)) * 64)))) + (wrap64 (bt x0 (wrap64 (x1 + 2)))))) - 128)) < 55296 then (some (wrap64 ((wrap64 ((wrap64 ((wrap64 ((wrap64 (x6 - 224)) * 4096)) + (wrap64 ((wrap64 ((wrap64 (bt x0 (wrap64 (x1 + 1)))) - 128)) * 64)))) + (wrap64 (bt x0 (wrap64 (x1 + 2)))))) - 128), 3)) else (if (wrap64 ((wrap64 ((wrap64 ((wrap64 ((wrap64 (x6 - 224)) * 4096)) + (wrap64 ((wrap64 ((wrap64 (bt x0 (wrap64 (x1 + 1)))) - 128)) * 64)))) + (wrap64 (bt x0 (wrap64 (x1 + 2)))))) - 128)) > 57343 then (some (wrap64 ((wrap64 ((wrap64 ((wrap64 ((wrap64 (x6 - 224)) * 4096)) + (wrap64 ((wrap64 ((wrap64 (bt x0 (wrap64 (x1 + 1)))) - 128)) * 64)))) + (wrap64 (bt x0 (wrap64 (x1 + 2)))))) - 128), 3)) else (some (0, 0)))) else (some (0, 0))) else (none)) else (none)) else (none)) else (none)) else (if x6 ≥ 240 then (if x6 < 245 then ((letterboxref08_tail.f x0 (wrap64 (x1 + 1))).bind fun t145 => (if t145 = true then ((letterboxref08_tail.f x0 (wrap64 (x1 + 2))).bind fun t146 => (if t146 = true then ((letterboxref08_tail.f x0 (wrap64 (x1 + 3))).bind fun t147 => (letterboxref08_Char.j2 k x0 x1 x6 t147)) else (letterboxref08_Char.j2 k x0 x1 x6 false))) else (letterboxref08_Char.j2 k x0 x1 x6 false))) else (letterboxref08_Char.j2 k x0 x1 x6 false)) else (letterboxref08_Char.j2 k x0 x1 x6 false))
def letterboxref08_Char.j2 : Nat → ByteArray → Int → Int → Bool → Option (Int × Int)
  | 0, _, _, _, _ => none
  | k + 1, x0, x1, x6, x108 => if x108 = true then (if 0 ≤ (wrap64 (x1 + 1)) then (if (wrap64 (x1 + 1)) < (x0.size : Int) then (if 0 ≤ (wrap64 (x1 + 2)) then (if (wrap64 (x1 + 2)) < (x0.size : Int) then (if 0 ≤ (wrap64 (x1 + 3)) then (if (wrap64 (x1 + 3)) < (x0.size : Int) then (if (wrap64 ((wrap64 ((wrap64 ((wrap64 ((wrap64 ((wrap64 (x6 - 240)) * 262144)) + (wrap64 ((wrap64 ((wrap64 (bt x0 (wrap64 (x1 + 1)))) - 128)) * 4096)))) + (wrap64 ((wrap64 ((wrap64 (bt x0 (wrap64 (x1 + 2)))) - 128)) * 64)))) + (wrap64 (bt x0 (wrap64 (x1 + 3)))))) - 128)) ≥ 65536 then (if (wrap64 ((wrap64 ((wrap64 ((wrap64 ((wrap64 ((wrap64 (x6 - 240)) * 262144)) + (wrap64 ((wrap64 ((wrap64 (bt x0 (wrap64 (x1 + 1)))) - 128)) * 4096)))) + (wrap64 ((wrap64 ((wrap64 (bt x0 (wrap64 (x1 + 2)))) - 128)) * 64)))) + (wrap64 (bt x0 (wrap64 (x1 + 3)))))) - 128)) ≤ 1114111 then (some (wrap64 ((wrap64 ((wrap64 ((wrap64 ((wrap64 ((wrap64 (x6 - 240)) * 262144)) + (wrap64 ((wrap64 ((wrap64 (bt x0 (wrap64 (x1 + 1)))) - 128)) * 4096)))) + (wrap64 ((wrap64 ((wrap64 (bt x0 (wrap64 (x1 + 2)))) - 128)) * 64)))) + (wrap64 (bt x0 (wrap64 (x1 + 3)))))) - 128), 4)) else (some (0, 0))) else (some (0, 0))) else (none)) else (none)) else (none)) else (none)) else (none)) else (none)) else (some (0, 0))
end
def letterboxref08_Char.f (k : Nat) (a0 : ByteArray) (a1 : Int) : Option (Int × Int) := if 0 ≤ a1 then (if a1 < (a0.size : Int) then (if (wrap64 (bt a0 a1)) < 128 then (some (wrap64 (bt a0 a1), 1)) else (if (wrap64 (bt a0 a1)) ≥ 194 then (if (wrap64 (bt a0 a1)) < 224 then ((letterboxref08_tail.f a0 (wrap64 (a1 + 1))).bind fun t142 => (letterboxref08_Char.j0 k a0 a1 (wrap64 (bt a0 a1)) t142)) else (letterboxref08_Char.j0 k a0 a1 (wrap64 (bt a0 a1)) false)) else (letterboxref08_Char.j0 k a0 a1 (wrap64 (bt a0 a1)) false))) else (none)) else (none)
theorem letterboxref08_Char.mono_l : ∀ k, (∀ y0 y1 y2 y3, LeO (letterboxref08_Char.j0 k y0 y1 y2 y3) (letterboxref08_Char.j0 (k + 1) y0 y1 y2 y3)) ∧ (∀ y0 y1 y2 y3, LeO (letterboxref08_Char.j1 k y0 y1 y2 y3) (letterboxref08_Char.j1 (k + 1) y0 y1 y2 y3)) ∧ (∀ y0 y1 y2 y3, LeO (letterboxref08_Char.j2 k y0 y1 y2 y3) (letterboxref08_Char.j2 (k + 1) y0 y1 y2 y3))
  | 0 => ⟨fun _ _ _ _ r h => by simp [letterboxref08_Char.j0] at h, fun _ _ _ _ r h => by simp [letterboxref08_Char.j1] at h, fun _ _ _ _ r h => by simp [letterboxref08_Char.j2] at h⟩
  | k + 1 => by
    obtain ⟨ih0, ih1, ih2⟩ := letterboxref08_Char.mono_l k
    refine ⟨?_, ?_, ?_⟩
    · intro y0 y1 y2 y3
      unfold letterboxref08_Char.j0
      repeat' first
      | (with_reducible exact ih0 _ _ _ _)
      | (with_reducible exact ih1 _ _ _ _)
      | (with_reducible exact ih2 _ _ _ _)
      | (with_reducible exact LeO.refl _)
      | (with_reducible exact LeO.none _)
      | (with_reducible refine LeO.ite ?_ ?_)
      | (with_reducible refine LeO.bind ?_ (fun _ => ?_))
      | exact ih0 _ _ _ _
      | exact ih1 _ _ _ _
      | exact ih2 _ _ _ _
      | exact LeO.none _
      | refine LeO.ite ?_ ?_
      | refine LeO.bind ?_ (fun _ => ?_)
    · intro y0 y1 y2 y3
      unfold letterboxref08_Char.j1
      repeat' first
      | (with_reducible exact ih0 _ _ _ _)
      | (with_reducible exact ih1 _ _ _ _)
      | (with_reducible exact ih2 _ _ _ _)
      | (with_reducible exact LeO.refl _)
      | (with_reducible exact LeO.none _)
      | (with_reducible refine LeO.ite ?_ ?_)
      | (with_reducible refine LeO.bind ?_ (fun _ => ?_))
      | exact ih0 _ _ _ _
      | exact ih1 _ _ _ _
      | exact ih2 _ _ _ _
      | exact LeO.none _
      | refine LeO.ite ?_ ?_
      | refine LeO.bind ?_ (fun _ => ?_)
    · intro y0 y1 y2 y3
      unfold letterboxref08_Char.j2
      repeat' first
      | (with_reducible exact ih0 _ _ _ _)
      | (with_reducible exact ih1 _ _ _ _)
      | (with_reducible exact ih2 _ _ _ _)
      | (with_reducible exact LeO.refl _)
      | (with_reducible exact LeO.none _)
      | (with_reducible refine LeO.ite ?_ ?_)
      | (with_reducible refine LeO.bind ?_ (fun _ => ?_))
      | exact ih0 _ _ _ _
      | exact ih1 _ _ _ _
      | exact ih2 _ _ _ _
      | exact LeO.none _
      | refine LeO.ite ?_ ?_
      | refine LeO.bind ?_ (fun _ => ?_)
theorem letterboxref08_Char.mono : ∀ a0 a1 k, LeO (letterboxref08_Char.f k a0 a1) (letterboxref08_Char.f (k + 1) a0 a1) := by
  intro a0 a1 k
  obtain ⟨ih0, ih1, ih2⟩ := letterboxref08_Char.mono_l k
  unfold letterboxref08_Char.f
  repeat' first
      | (with_reducible exact ih0 _ _ _ _)
      | (with_reducible exact ih1 _ _ _ _)
      | (with_reducible exact ih2 _ _ _ _)
      | (with_reducible exact LeO.refl _)
      | (with_reducible exact LeO.none _)
      | (with_reducible refine LeO.ite ?_ ?_)
      | (with_reducible refine LeO.bind ?_ (fun _ => ?_))
      | exact ih0 _ _ _ _
      | exact ih1 _ _ _ _
      | exact ih2 _ _ _ _
      | exact LeO.none _
      | refine LeO.ite ?_ ?_
      | refine LeO.bind ?_ (fun _ => ?_)
set_option maxHeartbeats 8000000 in
set_option maxRecDepth 100000 in
theorem letterboxref08_Char.calls (k : Nat) (a0 : ByteArray) (a1 : Int) (r1 : Int) (r2 : Int) (w : World) (h : letterboxref08_Char.f k a0 a1 = some (r1, r2)) :
    Calls Tryd.prog 18 #[.string a0, .int .i64 a1] w fun e w' => e = .returned (.tuple #[.int .i64 r1, .int .i64 r2]) ∧ Drawn0 w w' := by
  have hw8_ : ∀ x_ : Int, IntKind.u8.wrap x_ = x_ % 256 := IntKind.wrap_u8
  have H : (if 0 ≤ a1 then (if a1 < (a0.size : Int) then (if (wrap64 (bt a0 a1)) < 128 then (some (wrap64 (bt a0 a1), 1)) else (if (wrap64 (bt a0 a1)) ≥ 194 then (if (wrap64 (bt a0 a1)) < 224 then ((letterboxref08_tail.f a0 (wrap64 (a1 + 1))).bind fun t142 => (letterboxref08_Char.j0 k a0 a1 (wrap64 (bt a0 a1)) t142)) else (letterboxref08_Char.j0 k a0 a1 (wrap64 (bt a0 a1)) false)) else (letterboxref08_Char.j0 k a0 a1 (wrap64 (bt a0 a1)) false))) else (none)) else (none)) = some (r1, r2) := h
  clear h
  by_cases c3 : 0 ≤ a1
  · rw [if_pos c3] at H
    have c3b0 : decide (0 ≤ a1) = true := decide_eq_true c3
    clear c3
    by_cases c4 : a1 < (a0.size : Int)
    · rw [if_pos c4] at H
      have c4b0 : decide (a1 < (a0.size : Int)) = true := decide_eq_true c4
      clear c4
      by_cases c6 : (wrap64 (bt a0 a1)) < 128
      · rw [if_pos c6] at H
        have c6b0 : decide ((wrap64 (bt a0 a1)) < 128) = true := decide_eq_true c6
        clear c6
        simp only [Option.some.injEq, Prod.mk.injEq] at H
        obtain ⟨rfl, rfl⟩ := H
        have p5 : 0 ≤ (a1 : Int) := of_decide_eq_true (by first | (with_reducible assumption) | assumption)
        have q5 : a1 < (a0.size : Int) := of_decide_eq_true (by first | (with_reducible assumption) | assumption)
        have hx5 := bt_at a0 a1
        replace p5 := eq_true p5
        replace q5 := eq_true q5
        go_enter Tryd.func18, Tryd.ntmps18
        go_wp2
        repeat (go_quiet (fail); try go_wp2)
        go_ret2
        exact ⟨by first | rfl | (simp; done) | (simp [*]; done), by repeat (first | exact Drawn0.refl _ | apply Drawn0.step)⟩
      · rw [if_neg c6] at H
        have c6b0 : decide ((wrap64 (bt a0 a1)) < 128) = false := decide_eq_false c6
        clear c6
        have HC7 := Aside0.mk H
        clear H
        have p5 : 0 ≤ (a1 : Int) := of_decide_eq_true (by first | (with_reducible assumption) | assumption)
        have q5 : a1 < (a0.size : Int) := of_decide_eq_true (by first | (with_reducible assumption) | assumption)
        have hx5 := bt_at a0 a1
        replace p5 := eq_true p5
        replace q5 := eq_true q5
        go_enter Tryd.func18, Tryd.ntmps18
        go_upto_region 4 with (fail)
        repeat (go_quiet (fail); go_upto_region 4 with (fail))
        go_cut [27] (fun v27 wc => ∃ (kq : Nat) (x27_6 : Bool), v27 = .bool x27_6 ∧ Aside0 (letterboxref08_Char.j0 kq a0 a1 (wrap64 (bt a0 a1)) x27_6 = some (r1, r2)) ∧ Aside0 (kq ≤ k) ∧ Drawn0 w wc)
        case first =>
          have H := HC7.out
          clear HC7
          by_cases c8 : (wrap64 (bt a0 a1)) ≥ 194
          · rw [if_pos c8] at H
            have c8b0 : decide (194 ≤ (wrap64 (bt a0 a1))) = true := decide_eq_true c8
            clear c8
            (first | rw [c8b0] | (simp only [i64_w, i32_w]; rw [c8b0]) | skip)
            by_cases c9 : (wrap64 (bt a0 a1)) < 224
            · rw [if_pos c9] at H
              have c9b0 : decide ((wrap64 (bt a0 a1)) < 224) = true := decide_eq_true c9
              clear c9
              replace H := Option.bind_eq_some_iff.mp H
              obtain ⟨t142, A100, H⟩ := H
              replace H : (letterboxref08_Char.j0 k a0 a1 (wrap64 (bt a0 a1)) t142) = some (r1, r2) := H
              have A10 := Aside0.mk A100
              clear A100
              have H' := Aside0.mk H
              clear H
              go_wp2_with (first | (go_at_call 27; (with_reducible refine (letterboxref08_tail.calls a0 (wrap64 (a1 + 1)) t142 _ A10.out).mono ?_); rintro e w' ⟨rfl, ⟨nd, rfl⟩⟩; (try first | exact ⟨rfl, _, World.drewN_drewN _ _ _⟩ | exact ⟨rfl, _, Eq.trans (World.drewN_drewN _ _ _) (congrArg (World.drewN _) (Nat.add_assoc _ _ _))⟩)))
              repeat (go_quiet (first | (go_at_call 27; (with_reducible refine (letterboxref08_tail.calls a0 (wrap64 (a1 + 1)) t142 _ A10.out).mono ?_); rintro e w' ⟨rfl, ⟨nd, rfl⟩⟩; (try first | exact ⟨rfl, _, World.drewN_drewN _ _ _⟩ | exact ⟨rfl, _, Eq.trans (World.drewN_drewN _ _ _) (congrArg (World.drewN _) (Nat.add_assoc _ _ _))⟩))); try go_wp2_with (first | (go_at_call 27; (with_reducible refine (letterboxref08_tail.calls a0 (wrap64 (a1 + 1)) t142 _ A10.out).mono ?_); rintro e w' ⟨rfl, ⟨nd, rfl⟩⟩; (try first | exact ⟨rfl, _, World.drewN_drewN _ _ _⟩ | exact ⟨rfl, _, Eq.trans (World.drewN_drewN _ _ _) (congrArg (World.drewN _) (Nat.add_assoc _ _ _))⟩))))
              go_meet
              case rel => exact ⟨_, (t142), (by first | rfl | (simp; done) | (simp [*]; done)), H', ⟨by first | omega | exact Nat.le_refl _⟩, by repeat (first | exact Drawn0.refl _ | apply Drawn0.step)⟩
            · rw [if_neg c9] at H
              have c9b0 : decide ((wrap64 (bt a0 a1)) < 224) = false := decide_eq_false c9
              clear c9
              have H' := Aside0.mk H
              clear H
              go_wp2
              repeat (go_quiet (fail); try go_wp2)
              go_meet
              case rel => exact ⟨_, (false), (by first | rfl | (simp; done) | (simp [*]; done)), H', ⟨by first | omega | exact Nat.le_refl _⟩, by repeat (first | exact Drawn0.refl _ | apply Drawn0.step)⟩
          · rw [if_neg c8] at H
            have c8b0 : decide (194 ≤ (wrap64 (bt a0 a1))) = false := decide_eq_false c8
            clear c8
            (first | rw [c8b0] | (simp only [i64_w, i32_w]; rw [c8b0]) | skip)
            have H' := Aside0.mk H
            clear H
            go_wp2
            repeat (go_quiet (fail); try go_wp2)
            go_meet
            case rel => exact ⟨_, (false), (by first | rfl | (simp; done) | (simp [*]; done)), H', ⟨by first | omega | exact Nat.le_refl _⟩, by repeat (first | exact Drawn0.refl _ | apply Drawn0.step)⟩
        case rest =>
          clear HC7
          try clear c1
          try clear p2
          try clear c3
          try clear c3b0
          try clear c4
          try clear c4b0
          try clear p5
          try clear q5
          try clear hx5
          try clear c6
          try clear c6b0
          try clear p6
          try clear c8
          try clear c8b0
          try clear c9
          try clear c9b0
          try clear p5
          try clear q5
          obtain ⟨kq, x27_6, rfl, HA, HJ6, ⟨mc6, rfl⟩⟩ := hcut
          cases kq with
          | zero => exact absurd HA.out (by simp [letterboxref08_Char.j0])
          | succ kj6 =>
            have H := HA.out
            clear HA
            simp only [letterboxref08_Char.j0] at H
            by_cases c11 : x27_6 = true
            · subst c11
              have H1 : (if 0 ≤ (wrap64 (a1 + 1)) then (if (wrap64 (a1 + 1)) < (a0.size : Int) then (some (wrap64 ((wrap64 ((wrap64 ((wrap64 ((wrap64 (bt a0 a1)) - 192)) * 64)) + (wrap64 (bt a0 (wrap64 (a1 + 1)))))) - 128), 2)) else (none)) else (none)) = some (r1, r2) := by rw [if_pos rfl] at H; exact H
              clear H
              have H := H1
              clear H1
              obtain ⟨ji12, hji12⟩ : ∃ j_ : Int, (wrap64 (a1 + 1)) = j_ := ⟨_, rfl⟩
              replace H : (if 0 ≤ (ji12) then (if (ji12) < (a0.size : Int) then (some (wrap64 ((wrap64 ((wrap64 ((wrap64 ((wrap64 (bt a0 a1)) - 192)) * 64)) + (wrap64 (bt a0 (ji12))))) - 128), 2)) else (none)) else (none)) = some (r1, r2) := by first | (rw [hji12] at H; exact H) | (simp only [hji12] at H ⊢; exact H)
              have hji12w : (IntKind.i64.wrap (a1 + 1)) = ji12 := (i64_w _).trans hji12
              by_cases c13 : 0 ≤ (ji12)
              · rw [if_pos c13] at H
                have c13b0 : decide (0 ≤ (ji12)) = true := decide_eq_true c13
                clear c13
                by_cases c14 : (ji12) < (a0.size : Int)
                · rw [if_pos c14] at H
                  have c14b0 : decide ((ji12) < (a0.size : Int)) = true := decide_eq_true c14
                  clear c14
                  simp only [Option.some.injEq, Prod.mk.injEq] at H
                  obtain ⟨rfl, rfl⟩ := H
                  have p15 : 0 ≤ ((ji12) : Int) := of_decide_eq_true (by first | (with_reducible assumption) | assumption)
                  have q15 : (ji12) < (a0.size : Int) := of_decide_eq_true (by first | (with_reducible assumption) | assumption)
                  have hx15 := bt_at a0 (ji12)
                  replace p15 := eq_true p15
                  replace q15 := eq_true q15
                  go_wp2
                  repeat (go_quiet (fail); try go_wp2)
                  go_ret2
                  exact ⟨by first | rfl | (simp; done) | (simp only [← hji12] <;> (first | rfl | simp)) | (simp [*]; done), by repeat (first | exact Drawn0.refl _ | apply Drawn0.step)⟩
                · rw [if_neg c14] at H
                  exact absurd H (by simp)
              · rw [if_neg c13] at H
                exact absurd H (by simp)
            · replace c11 := Bool.eq_false_iff.mpr c11
              subst c11
              have H1 : (if (wrap64 (bt a0 a1)) ≥ 224 then (if (wrap64 (bt a0 a1)) < 240 then ((letterboxref08_tail.f a0 (wrap64 (a1 + 1))).bind fun t143 => (if t143 = true then ((letterboxref08_tail.f a0 (wrap64 (a1 + 2))).bind fun t144 => (letterboxref08_Char.j1 kj6 a0 a1 (wrap64 (bt a0 a1)) t144)) else (letterboxref08_Char.j1 kj6 a0 a1 (wrap64 (bt a0 a1)) false))) else (letterboxref08_Char.j1 kj6 a0 a1 (wrap64 (bt a0 a1)) false)) else (letterboxref08_Char.j1 kj6 a0 a1 (wrap64 (bt a0 a1)) false)) = some (r1, r2) := by rw [if_neg (show ¬ (false = true) by decide)] at H; exact H
              clear H
              have H := H1
              clear H1
              have HC16 := Aside0.mk H
              clear H
              go_upto_region 6 with (fail)
              repeat (go_quiet (fail); go_upto_region 6 with (fail))
              go_cut [55] (fun v55 wc => ∃ (kq : Nat) (x55_15 : Bool), v55 = .bool x55_15 ∧ Aside0 (letterboxref08_Char.j1 kq a0 a1 (wrap64 (bt a0 a1)) x55_15 = some (r1, r2)) ∧ Aside0 (kq ≤ kj6) ∧ Drawn0 w wc)
              case first =>
                have H := HC16.out
                clear HC16
                by_cases c17 : (wrap64 (bt a0 a1)) ≥ 224
                · rw [if_pos c17] at H
                  have c17b0 : decide (224 ≤ (wrap64 (bt a0 a1))) = true := decide_eq_true c17
                  clear c17
                  (first | rw [c17b0] | (simp only [i64_w, i32_w]; rw [c17b0]) | skip)
                  by_cases c18 : (wrap64 (bt a0 a1)) < 240
                  · rw [if_pos c18] at H
                    have c18b0 : decide ((wrap64 (bt a0 a1)) < 240) = true := decide_eq_true c18
                    clear c18
                    replace H := Option.bind_eq_some_iff.mp H
                    obtain ⟨t143, A190, H⟩ := H
                    replace H : (if t143 = true then ((letterboxref08_tail.f a0 (wrap64 (a1 + 2))).bind fun t144 => (letterboxref08_Char.j1 kj6 a0 a1 (wrap64 (bt a0 a1)) t144)) else (letterboxref08_Char.j1 kj6 a0 a1 (wrap64 (bt a0 a1)) false)) = some (r1, r2) := H
                    have A19 := Aside0.mk A190
                    clear A190
                    by_cases c20 : t143 = true
                    · subst c20
                      have H1 : ((letterboxref08_tail.f a0 (wrap64 (a1 + 2))).bind fun t144 => (letterboxref08_Char.j1 kj6 a0 a1 (wrap64 (bt a0 a1)) t144)) = some (r1, r2) := by rw [if_pos rfl] at H; exact H
                      clear H
                      have H := H1
                      clear H1
                      replace H := Option.bind_eq_some_iff.mp H
                      obtain ⟨t144, A210, H⟩ := H
                      replace H : (letterboxref08_Char.j1 kj6 a0 a1 (wrap64 (bt a0 a1)) t144) = some (r1, r2) := H
                      have A21 := Aside0.mk A210
                      clear A210
                      have H' := Aside0.mk H
                      clear H
                      go_wp2_with (first | (go_at_call 27; (with_reducible refine (letterboxref08_tail.calls a0 (wrap64 (a1 + 1)) true _ A19.out).mono ?_); rintro e w' ⟨rfl, ⟨nd, rfl⟩⟩; (try first | exact ⟨rfl, _, World.drewN_drewN _ _ _⟩ | exact ⟨rfl, _, Eq.trans (World.drewN_drewN _ _ _) (congrArg (World.drewN _) (Nat.add_assoc _ _ _))⟩)) | (go_at_call 27; (with_reducible refine (letterboxref08_tail.calls a0 (wrap64 (a1 + 2)) t144 _ A21.out).mono ?_); rintro e w' ⟨rfl, ⟨nd, rfl⟩⟩; (try first | exact ⟨rfl, _, World.drewN_drewN _ _ _⟩ | exact ⟨rfl, _, Eq.trans (World.drewN_drewN _ _ _) (congrArg (World.drewN _) (Nat.add_assoc _ _ _))⟩)))
                      repeat (go_quiet (first | (go_at_call 27; (with_reducible refine (letterboxref08_tail.calls a0 (wrap64 (a1 + 1)) true _ A19.out).mono ?_); rintro e w' ⟨rfl, ⟨nd, rfl⟩⟩; (try first | exact ⟨rfl, _, World.drewN_drewN _ _ _⟩ | exact ⟨rfl, _, Eq.trans (World.drewN_drewN _ _ _) (congrArg (World.drewN _) (Nat.add_assoc _ _ _))⟩)) | (go_at_call 27; (with_reducible refine (letterboxref08_tail.calls a0 (wrap64 (a1 + 2)) t144 _ A21.out).mono ?_); rintro e w' ⟨rfl, ⟨nd, rfl⟩⟩; (try first | exact ⟨rfl, _, World.drewN_drewN _ _ _⟩ | exact ⟨rfl, _, Eq.trans (World.drewN_drewN _ _ _) (congrArg (World.drewN _) (Nat.add_assoc _ _ _))⟩))); try go_wp2_with (first | (go_at_call 27; (with_reducible refine (letterboxref08_tail.calls a0 (wrap64 (a1 + 1)) true _ A19.out).mono ?_); rintro e w' ⟨rfl, ⟨nd, rfl⟩⟩; (try first | exact ⟨rfl, _, World.drewN_drewN _ _ _⟩ | exact ⟨rfl, _, Eq.trans (World.drewN_drewN _ _ _) (congrArg (World.drewN _) (Nat.add_assoc _ _ _))⟩)) | (go_at_call 27; (with_reducible refine (letterboxref08_tail.calls a0 (wrap64 (a1 + 2)) t144 _ A21.out).mono ?_); rintro e w' ⟨rfl, ⟨nd, rfl⟩⟩; (try first | exact ⟨rfl, _, World.drewN_drewN _ _ _⟩ | exact ⟨rfl, _, Eq.trans (World.drewN_drewN _ _ _) (congrArg (World.drewN _) (Nat.add_assoc _ _ _))⟩))))
                      go_meet
                      case rel => exact ⟨_, (t144), (by first | rfl | (simp; done) | (simp [*]; done)), (by first | exact H' | (rw [hji12]; exact H')), ⟨by have := HJ6.out; first | omega | exact Nat.le_refl _⟩, by repeat (first | exact Drawn0.refl _ | apply Drawn0.step)⟩
                    · replace c20 := Bool.eq_false_iff.mpr c20
                      subst c20
                      have H1 : (letterboxref08_Char.j1 kj6 a0 a1 (wrap64 (bt a0 a1)) false) = some (r1, r2) := by rw [if_neg (show ¬ (false = true) by decide)] at H; exact H
                      clear H
                      have H := H1
                      clear H1
                      have H' := Aside0.mk H
                      clear H
                      go_wp2_with (first | (go_at_call 27; (with_reducible refine (letterboxref08_tail.calls a0 (wrap64 (a1 + 1)) false _ A19.out).mono ?_); rintro e w' ⟨rfl, ⟨nd, rfl⟩⟩; (try first | exact ⟨rfl, _, World.drewN_drewN _ _ _⟩ | exact ⟨rfl, _, Eq.trans (World.drewN_drewN _ _ _) (congrArg (World.drewN _) (Nat.add_assoc _ _ _))⟩)))
                      repeat (go_quiet (first | (go_at_call 27; (with_reducible refine (letterboxref08_tail.calls a0 (wrap64 (a1 + 1)) false _ A19.out).mono ?_); rintro e w' ⟨rfl, ⟨nd, rfl⟩⟩; (try first | exact ⟨rfl, _, World.drewN_drewN _ _ _⟩ | exact ⟨rfl, _, Eq.trans (World.drewN_drewN _ _ _) (congrArg (World.drewN _) (Nat.add_assoc _ _ _))⟩))); try go_wp2_with (first | (go_at_call 27; (with_reducible refine (letterboxref08_tail.calls a0 (wrap64 (a1 + 1)) false _ A19.out).mono ?_); rintro e w' ⟨rfl, ⟨nd, rfl⟩⟩; (try first | exact ⟨rfl, _, World.drewN_drewN _ _ _⟩ | exact ⟨rfl, _, Eq.trans (World.drewN_drewN _ _ _) (congrArg (World.drewN _) (Nat.add_assoc _ _ _))⟩))))
                      go_meet
                      case rel => exact ⟨_, (false), (by first | rfl | (simp; done) | (simp [*]; done)), (by first | exact H' | (rw [hji12]; exact H')), ⟨by have := HJ6.out; first | omega | exact Nat.le_refl _⟩, by repeat (first | exact Drawn0.refl _ | apply Drawn0.step)⟩
                  · rw [if_neg c18] at H
                    have c18b0 : decide ((wrap64 (bt a0 a1)) < 240) = false := decide_eq_false c18
                    clear c18
                    have H' := Aside0.mk H
                    clear H
                    go_wp2
                    repeat (go_quiet (fail); try go_wp2)
                    go_meet
                    case rel => exact ⟨_, (false), (by first | rfl | (simp; done) | (simp [*]; done)), (by first | exact H' | (rw [hji12]; exact H')), ⟨by have := HJ6.out; first | omega | exact Nat.le_refl _⟩, by repeat (first | exact Drawn0.refl _ | apply Drawn0.step)⟩
                · rw [if_neg c17] at H
                  have c17b0 : decide (224 ≤ (wrap64 (bt a0 a1))) = false := decide_eq_false c17
                  clear c17
                  (first | rw [c17b0] | (simp only [i64_w, i32_w]; rw [c17b0]) | skip)
                  have H' := Aside0.mk H
                  clear H
                  go_wp2
                  repeat (go_quiet (fail); try go_wp2)
                  go_meet
                  case rel => exact ⟨_, (false), (by first | rfl | (simp; done) | (simp [*]; done)), (by first | exact H' | (rw [hji12]; exact H')), ⟨by have := HJ6.out; first | omega | exact Nat.le_refl _⟩, by repeat (first | exact Drawn0.refl _ | apply Drawn0.step)⟩
              case rest =>
                clear HC16
                try clear c1
                try clear p1
                try clear q1
                try clear hx1
                try clear c2
                try clear p2
                try clear c3
                try clear c3b0
                try clear c4
                try clear c4b0
                try clear p5
                try clear q5
                try clear hx5
                try clear c6
                try clear c6b0
                try clear p6
                try clear c8
                try clear c8b0
                try clear c9
                try clear c9b0
                try clear c11
                try clear c13
                try clear c13b0
                try clear c14
                try clear c14b0
                try clear p15
                try clear q15
                try clear hx15
                try clear c17
                try clear c17b0
                try clear c18
                try clear c18b0
                try clear c20
                try clear p15
                try clear p2
                try clear p5
                try clear p6
                try clear q15
                try clear q5
                obtain ⟨kq, x55_15, rfl, HA, HJ15, ⟨mc15, rfl⟩⟩ := hcut
                cases kq with
                | zero => exact absurd HA.out (by simp [letterboxref08_Char.j1])
                | succ kj15 =>
                  have H := HA.out
                  clear HA
                  simp only [letterboxref08_Char.j1] at H
                  by_cases c22 : x55_15 = true
                  · subst c22
                    have H1 : (if 0 ≤ (wrap64 (a1 + 1)) then (if (wrap64 (a1 + 1)) < (a0.size : Int) then (if 0 ≤ (wrap64 (a1 + 2)) then (if (wrap64 (a1 + 2)) < (a0.size : Int) then (if (wrap64 ((wrap64 ((wrap64 ((wrap64 ((wrap64 ((wrap64 (bt a0 a1)) - 224)) * 4096)) + (wrap64 ((wrap64 ((wrap64 (bt a0 (wrap64 (a1 + 1)))) - 128)) * 64)))) + (wrap64 (bt a0 (wrap64 (a1 + 2)))))) - 128)) ≥ 2048 then (if (wrap64 ((wrap64 ((wrap64 ((wrap64 ((wrap64 ((wrap64 (bt a0 a1)) - 224)) * 4096)) + (wrap64 ((wrap64 ((wrap64 (bt a0 (wrap64 (a1 + 1)))) - 128)) * 64)))) + (wrap64 (bt a0 (wrap64 (a1 + 2)))))) - 128)) < 55296 then (some (wrap64 ((wrap64 ((wrap64 ((wrap64 ((wrap64 ((wrap64 (bt a0 a1)) - 224)) * 4096)) + (wrap64 ((wrap64 ((wrap64 (bt a0 (wrap64 (a1 + 1)))) - 128)) * 64)))) + (wrap64 (bt a0 (wrap64 (a1 + 2)))))) - 128), 3)) else (if (wrap64 ((wrap64 ((wrap64 ((wrap64 ((wrap64 ((wrap64 (bt a0 a1)) - 224)) * 4096)) + (wrap64 ((wrap64 ((wrap64 (bt a0 (wrap64 (a1 + 1)))) - 128)) * 64)))) + (wrap64 (bt a0 (wrap64 (a1 + 2)))))) - 128)) > 57343 then (some (wrap64 ((wrap64 ((wrap64 ((wrap64 ((wrap64 ((wrap64 (bt a0 a1)) - 224)) * 4096)) + (wrap64 ((wrap64 ((wrap64 (bt a0 (wrap64 (a1 + 1)))) - 128)) * 64)))) + (wrap64 (bt a0 (wrap64 (a1 + 2)))))) - 128), 3)) else (some (0, 0)))) else (some (0, 0))) else (none)) else (none)) else (none)) else (none)) = some (r1, r2) := by rw [if_pos rfl] at H; exact H
                    clear H
                    have H := H1
                    clear H1
                    obtain ⟨ji23, hji23⟩ : ∃ j_ : Int, (wrap64 (a1 + 1)) = j_ := ⟨_, rfl⟩
                    replace H : (if 0 ≤ (ji23) then (if (ji23) < (a0.size : Int) then (if 0 ≤ (wrap64 (a1 + 2)) then (if (wrap64 (a1 + 2)) < (a0.size : Int) then (if (wrap64 ((wrap64 ((wrap64 ((wrap64 ((wrap64 ((wrap64 (bt a0 a1)) - 224)) * 4096)) + (wrap64 ((wrap64 ((wrap64 (bt a0 (ji23))) - 128)) * 64)))) + (wrap64 (bt a0 (wrap64 (a1 + 2)))))) - 128)) ≥ 2048 then (if (wrap64 ((wrap64 ((wrap64 ((wrap64 ((wrap64 ((wrap64 (bt a0 a1)) - 224)) * 4096)) + (wrap64 ((wrap64 ((wrap64 (bt a0 (ji23))) - 128)) * 64)))) + (wrap64 (bt a0 (wrap64 (a1 + 2)))))) - 128)) < 55296 then (some (wrap64 ((wrap64 ((wrap64 ((wrap64 ((wrap64 ((wrap64 (bt a0 a1)) - 224)) * 4096)) + (wrap64 ((wrap64 ((wrap64 (bt a0 (ji23))) - 128)) * 64)))) + (wrap64 (bt a0 (wrap64 (a1 + 2)))))) - 128), 3)) else (if (wrap64 ((wrap64 ((wrap64 ((wrap64 ((wrap64 ((wrap64 (bt a0 a1)) - 224)) * 4096)) + (wrap64 ((wrap64 ((wrap64 (bt a0 (ji23))) - 128)) * 64)))) + (wrap64 (bt a0 (wrap64 (a1 + 2)))))) - 128)) > 57343 then (some (wrap64 ((wrap64 ((wrap64 ((wrap64 ((wrap64 ((wrap64 (bt a0 a1)) - 224)) * 4096)) + (wrap64 ((wrap64 ((wrap64 (bt a0 (ji23))) - 128)) * 64)))) + (wrap64 (bt a0 (wrap64 (a1 + 2)))))) - 128), 3)) else (some (0, 0)))) else (some (0, 0))) else (none)) else (none)) else (none)) else (none)) = some (r1, r2) := by first | (rw [hji23] at H; exact H) | (simp only [hji23] at H ⊢; exact H)
                    have hji23w : (IntKind.i64.wrap (a1 + 1)) = ji23 := (i64_w _).trans hji23
                    by_cases c24 : 0 ≤ (ji23)
                    · rw [if_pos c24] at H
                      have c24b0 : decide (0 ≤ (ji23)) = true := decide_eq_true c24
                      clear c24
                      by_cases c25 : (ji23) < (a0.size : Int)
                      · rw [if_pos c25] at H
                        have c25b0 : decide ((ji23) < (a0.size : Int)) = true := decide_eq_true c25
                        clear c25
                        obtain ⟨ji27, hji27⟩ : ∃ j_ : Int, (wrap64 (a1 + 2)) = j_ := ⟨_, rfl⟩
                        replace H : (if 0 ≤ (ji27) then (if (ji27) < (a0.size : Int) then (if (wrap64 ((wrap64 ((wrap64 ((wrap64 ((wrap64 ((wrap64 (bt a0 a1)) - 224)) * 4096)) + (wrap64 ((wrap64 ((wrap64 (bt a0 (ji23))) - 128)) * 64)))) + (wrap64 (bt a0 (ji27))))) - 128)) ≥ 2048 then (if (wrap64 ((wrap64 ((wrap64 ((wrap64 ((wrap64 ((wrap64 (bt a0 a1)) - 224)) * 4096)) + (wrap64 ((wrap64 ((wrap64 (bt a0 (ji23))) - 128)) * 64)))) + (wrap64 (bt a0 (ji27))))) - 128)) < 55296 then (some (wrap64 ((wrap64 ((wrap64 ((wrap64 ((wrap64 ((wrap64 (bt a0 a1)) - 224)) * 4096)) + (wrap64 ((wrap64 ((wrap64 (bt a0 (ji23))) - 128)) * 64)))) + (wrap64 (bt a0 (ji27))))) - 128), 3)) else (if (wrap64 ((wrap64 ((wrap64 ((wrap64 ((wrap64 ((wrap64 (bt a0 a1)) - 224)) * 4096)) + (wrap64 ((wrap64 ((wrap64 (bt a0 (ji23))) - 128)) * 64)))) + (wrap64 (bt a0 (ji27))))) - 128)) > 57343 then (some (wrap64 ((wrap64 ((wrap64 ((wrap64 ((wrap64 ((wrap64 (bt a0 a1)) - 224)) * 4096)) + (wrap64 ((wrap64 ((wrap64 (bt a0 (ji23))) - 128)) * 64)))) + (wrap64 (bt a0 (ji27))))) - 128), 3)) else (some (0, 0)))) else (some (0, 0))) else (none)) else (none)) = some (r1, r2) := by first | (rw [hji27] at H; exact H) | (simp only [hji27] at H ⊢; exact H)
                        have hji27w : (IntKind.i64.wrap (a1 + 2)) = ji27 := (i64_w _).trans hji27
                        by_cases c28 : 0 ≤ (ji27)
                        · rw [if_pos c28] at H
                          have c28b0 : decide (0 ≤ (ji27)) = true := decide_eq_true c28
                          clear c28
                          by_cases c29 : (ji27) < (a0.size : Int)
                          · rw [if_pos c29] at H
                            have c29b0 : decide ((ji27) < (a0.size : Int)) = true := decide_eq_true c29
                            clear c29
                            by_cases c31 : (wrap64 ((wrap64 ((wrap64 ((wrap64 ((wrap64 ((wrap64 (bt a0 a1)) - 224)) * 4096)) + (wrap64 ((wrap64 ((wrap64 (bt a0 (ji23))) - 128)) * 64)))) + (wrap64 (bt a0 (ji27))))) - 128)) ≥ 2048
                            · rw [if_pos c31] at H
                              have c31b0 : decide (2048 ≤ (wrap64 ((wrap64 ((wrap64 ((wrap64 ((wrap64 ((wrap64 (bt a0 a1)) - 224)) * 4096)) + (wrap64 ((wrap64 ((wrap64 (bt a0 (ji23))) - 128)) * 64)))) + (wrap64 (bt a0 (ji27))))) - 128))) = true := decide_eq_true c31
                              clear c31
                              by_cases c32 : (wrap64 ((wrap64 ((wrap64 ((wrap64 ((wrap64 ((wrap64 (bt a0 a1)) - 224)) * 4096)) + (wrap64 ((wrap64 ((wrap64 (bt a0 (ji23))) - 128)) * 64)))) + (wrap64 (bt a0 (ji27))))) - 128)) < 55296
                              · rw [if_pos c32] at H
                                have c32b0 : decide ((wrap64 ((wrap64 ((wrap64 ((wrap64 ((wrap64 ((wrap64 (bt a0 a1)) - 224)) * 4096)) + (wrap64 ((wrap64 ((wrap64 (bt a0 (ji23))) - 128)) * 64)))) + (wrap64 (bt a0 (ji27))))) - 128)) < 55296) = true := decide_eq_true c32
                                clear c32
                                simp only [Option.some.injEq, Prod.mk.injEq] at H
                                obtain ⟨rfl, rfl⟩ := H
                                have p26 : 0 ≤ ((ji23) : Int) := of_decide_eq_true (by first | (with_reducible assumption) | assumption)
                                have q26 : (ji23) < (a0.size : Int) := of_decide_eq_true (by first | (with_reducible assumption) | assumption)
                                have hx26 := bt_at a0 (ji23)
                                replace p26 := eq_true p26
                                replace q26 := eq_true q26
                                have p30 : 0 ≤ ((ji27) : Int) := of_decide_eq_true (by first | (with_reducible assumption) | assumption)
                                have q30 : (ji27) < (a0.size : Int) := of_decide_eq_true (by first | (with_reducible assumption) | assumption)
                                have hx30 := bt_at a0 (ji27)
                                replace p30 := eq_true p30
                                replace q30 := eq_true q30
                                go_wp2
                                repeat (go_quiet (fail); try go_wp2)
                                go_ret2
                                exact ⟨by first | rfl | (simp; done) | (simp only [← hji23, ← hji27] <;> (first | rfl | simp)) | (simp [*]; done), by repeat (first | exact Drawn0.refl _ | apply Drawn0.step)⟩
                              · rw [if_neg c32] at H
                                have c32b0 : decide ((wrap64 ((wrap64 ((wrap64 ((wrap64 ((wrap64 ((wrap64 (bt a0 a1)) - 224)) * 4096)) + (wrap64 ((wrap64 ((wrap64 (bt a0 (ji23))) - 128)) * 64)))) + (wrap64 (bt a0 (ji27))))) - 128)) < 55296) = false := decide_eq_false c32
                                clear c32
                                by_cases c33 : (wrap64 ((wrap64 ((wrap64 ((wrap64 ((wrap64 ((wrap64 (bt a0 a1)) - 224)) * 4096)) + (wrap64 ((wrap64 ((wrap64 (bt a0 (ji23))) - 128)) * 64)))) + (wrap64 (bt a0 (ji27))))) - 128)) > 57343
                                · rw [if_pos c33] at H
                                  have c33b0 : decide (57343 < (wrap64 ((wrap64 ((wrap64 ((wrap64 ((wrap64 ((wrap64 (bt a0 a1)) - 224)) * 4096)) + (wrap64 ((wrap64 ((wrap64 (bt a0 (ji23))) - 128)) * 64)))) + (wrap64 (bt a0 (ji27))))) - 128))) = true := decide_eq_true c33
                                  clear c33
                                  simp only [Option.some.injEq, Prod.mk.injEq] at H
                                  obtain ⟨rfl, rfl⟩ := H
                                  have p26 : 0 ≤ ((ji23) : Int) := of_decide_eq_true (by first | (with_reducible assumption) | assumption)
                                  have q26 : (ji23) < (a0.size : Int) := of_decide_eq_true (by first | (with_reducible assumption) | assumption)
                                  have hx26 := bt_at a0 (ji23)
                                  replace p26 := eq_true p26
                                  replace q26 := eq_true q26
                                  have p30 : 0 ≤ ((ji27) : Int) := of_decide_eq_true (by first | (with_reducible assumption) | assumption)
                                  have q30 : (ji27) < (a0.size : Int) := of_decide_eq_true (by first | (with_reducible assumption) | assumption)
                                  have hx30 := bt_at a0 (ji27)
                                  replace p30 := eq_true p30
                                  replace q30 := eq_true q30
                                  go_wp2
                                  repeat (go_quiet (fail); try go_wp2)
                                  go_ret2
                                  exact ⟨by first | rfl | (simp; done) | (simp only [← hji23, ← hji27] <;> (first | rfl | simp)) | (simp [*]; done), by repeat (first | exact Drawn0.refl _ | apply Drawn0.step)⟩
                                · rw [if_neg c33] at H
                                  have c33b0 : decide (57343 < (wrap64 ((wrap64 ((wrap64 ((wrap64 ((wrap64 ((wrap64 (bt a0 a1)) - 224)) * 4096)) + (wrap64 ((wrap64 ((wrap64 (bt a0 (ji23))) - 128)) * 64)))) + (wrap64 (bt a0 (ji27))))) - 128))) = false := decide_eq_false c33
                                  clear c33
                                  simp only [Option.some.injEq, Prod.mk.injEq] at H
                                  obtain ⟨rfl, rfl⟩ := H
                                  have p26 : 0 ≤ ((ji23) : Int) := of_decide_eq_true (by first | (with_reducible assumption) | assumption)
                                  have q26 : (ji23) < (a0.size : Int) := of_decide_eq_true (by first | (with_reducible assumption) | assumption)
                                  have hx26 := bt_at a0 (ji23)
                                  replace p26 := eq_true p26
                                  replace q26 := eq_true q26
                                  have p30 : 0 ≤ ((ji27) : Int) := of_decide_eq_true (by first | (with_reducible assumption) | assumption)
                                  have q30 : (ji27) < (a0.size : Int) := of_decide_eq_true (by first | (with_reducible assumption) | assumption)
                                  have hx30 := bt_at a0 (ji27)
                                  replace p30 := eq_true p30
                                  replace q30 := eq_true q30
                                  go_wp2
                                  repeat (go_quiet (fail); try go_wp2)
                                  go_ret2
                                  exact ⟨by first | rfl | (simp; done) | (simp only [← hji23, ← hji27] <;> (first | rfl | simp)) | (simp [*]; done), by repeat (first | exact Drawn0.refl _ | apply Drawn0.step)⟩
                            · rw [if_neg c31] at H
                              have c31b0 : decide (2048 ≤ (wrap64 ((wrap64 ((wrap64 ((wrap64 ((wrap64 ((wrap64 (bt a0 a1)) - 224)) * 4096)) + (wrap64 ((wrap64 ((wrap64 (bt a0 (ji23))) - 128)) * 64)))) + (wrap64 (bt a0 (ji27))))) - 128))) = false := decide_eq_false c31
                              clear c31
                              simp only [Option.some.injEq, Prod.mk.injEq] at H
                              obtain ⟨rfl, rfl⟩ := H
                              have p26 : 0 ≤ ((ji23) : Int) := of_decide_eq_true (by first | (with_reducible assumption) | assumption)
                              have q26 : (ji23) < (a0.size : Int) := of_decide_eq_true (by first | (with_reducible assumption) | assumption)
                              have hx26 := bt_at a0 (ji23)
                              replace p26 := eq_true p26
                              replace q26 := eq_true q26
                              have p30 : 0 ≤ ((ji27) : Int) := of_decide_eq_true (by first | (with_reducible assumption) | assumption)
                              have q30 : (ji27) < (a0.size : Int) := of_decide_eq_true (by first | (with_reducible assumption) | assumption)
                              have hx30 := bt_at a0 (ji27)
                              replace p30 := eq_true p30
                              replace q30 := eq_true q30
                              go_wp2
                              repeat (go_quiet (fail); try go_wp2)
                              go_ret2
                              exact ⟨by first | rfl | (simp; done) | (simp only [← hji23, ← hji27] <;> (first | rfl | simp)) | (simp [*]; done), by repeat (first | exact Drawn0.refl _ | apply Drawn0.step)⟩
                          · rw [if_neg c29] at H
                            exact absurd H (by simp)
                        · rw [if_neg c28] at H
                          exact absurd H (by simp)
                      · rw [if_neg c25] at H
                        exact absurd H (by simp)
                    · rw [if_neg c24] at H
                      exact absurd H (by simp)
                  · replace c22 := Bool.eq_false_iff.mpr c22
                    subst c22
                    have H1 : (if (wrap64 (bt a0 a1)) ≥ 240 then (if (wrap64 (bt a0 a1)) < 245 then ((letterboxref08_tail.f a0 (wrap64 (a1 + 1))).bind fun t145 => (if t145 = true then ((letterboxref08_tail.f a0 (wrap64 (a1 + 2))).bind fun t146 => (if t146 = true then ((letterboxref08_tail.f a0 (wrap64 (a1 + 3))).bind fun t147 => (letterboxref08_Char.j2 kj15 a0 a1 (wrap64 (bt a0 a1)) t147)) else (letterboxref08_Char.j2 kj15 a0 a1 (wrap64 (bt a0 a1)) false))) else (letterboxref08_Char.j2 kj15 a0 a1 (wrap64 (bt a0 a1)) false))) else (letterboxref08_Char.j2 kj15 a0 a1 (wrap64 (bt a0 a1)) false)) else (letterboxref08_Char.j2 kj15 a0 a1 (wrap64 (bt a0 a1)) false)) = some (r1, r2) := by rw [if_neg (show ¬ (false = true) by decide)] at H; exact H
                    clear H
                    have H := H1
                    clear H1
                    have HC34 := Aside0.mk H
                    clear H
                    go_upto_region 11 with (fail)
                    repeat (go_quiet (fail); go_upto_region 11 with (fail))
                    go_cut [108] (fun v108 wc => ∃ (kq : Nat) (x108_33 : Bool), v108 = .bool x108_33 ∧ Aside0 (letterboxref08_Char.j2 kq a0 a1 (wrap64 (bt a0 a1)) x108_33 = some (r1, r2)) ∧ Aside0 (kq ≤ kj15) ∧ Drawn0 w wc)
                    case first =>
                      have H := HC34.out
                      clear HC34
                      by_cases c35 : (wrap64 (bt a0 a1)) ≥ 240
                      · rw [if_pos c35] at H
                        have c35b0 : decide (240 ≤ (wrap64 (bt a0 a1))) = true := decide_eq_true c35
                        clear c35
                        (first | rw [c35b0] | (simp only [i64_w, i32_w]; rw [c35b0]) | skip)
                        by_cases c36 : (wrap64 (bt a0 a1)) < 245
                        · rw [if_pos c36] at H
                          have c36b0 : decide ((wrap64 (bt a0 a1)) < 245) = true := decide_eq_true c36
                          clear c36
                          replace H := Option.bind_eq_some_iff.mp H
                          obtain ⟨t145, A370, H⟩ := H
                          replace H : (if t145 = true then ((letterboxref08_tail.f a0 (wrap64 (a1 + 2))).bind fun t146 => (if t146 = true then ((letterboxref08_tail.f a0 (wrap64 (a1 + 3))).bind fun t147 => (letterboxref08_Char.j2 kj15 a0 a1 (wrap64 (bt a0 a1)) t147)) else (letterboxref08_Char.j2 kj15 a0 a1 (wrap64 (bt a0 a1)) false))) else (letterboxref08_Char.j2 kj15 a0 a1 (wrap64 (bt a0 a1)) false)) = some (r1, r2) := H
                          have A37 := Aside0.mk A370
                          clear A370
                          by_cases c38 : t145 = true
                          · subst c38
                            have H1 : ((letterboxref08_tail.f a0 (wrap64 (a1 + 2))).bind fun t146 => (if t146 = true then ((letterboxref08_tail.f a0 (wrap64 (a1 + 3))).bind fun t147 => (letterboxref08_Char.j2 kj15 a0 a1 (wrap64 (bt a0 a1)) t147)) else (letterboxref08_Char.j2 kj15 a0 a1 (wrap64 (bt a0 a1)) false))) = some (r1, r2) := by rw [if_pos rfl] at H; exact H
                            clear H
                            have H := H1
                            clear H1
                            replace H := Option.bind_eq_some_iff.mp H
                            obtain ⟨t146, A390, H⟩ := H
                            replace H : (if t146 = true then ((letterboxref08_tail.f a0 (wrap64 (a1 + 3))).bind fun t147 => (letterboxref08_Char.j2 kj15 a0 a1 (wrap64 (bt a0 a1)) t147)) else (letterboxref08_Char.j2 kj15 a0 a1 (wrap64 (bt a0 a1)) false)) = some (r1, r2) := H
                            have A39 := Aside0.mk A390
                            clear A390
                            by_cases c40 : t146 = true
                            · subst c40
                              have H1 : ((letterboxref08_tail.f a0 (wrap64 (a1 + 3))).bind fun t147 => (letterboxref08_Char.j2 kj15 a0 a1 (wrap64 (bt a0 a1)) t147)) = some (r1, r2) := by rw [if_pos rfl] at H; exact H
                              clear H
                              have H := H1
                              clear H1
                              replace H := Option.bind_eq_some_iff.mp H
                              obtain ⟨t147, A410, H⟩ := H
                              replace H : (letterboxref08_Char.j2 kj15 a0 a1 (wrap64 (bt a0 a1)) t147) = some (r1, r2) := H
                              have A41 := Aside0.mk A410
                              clear A410
                              have H' := Aside0.mk H
                              clear H
                              go_wp2_with (first | (go_at_call 27; (with_reducible refine (letterboxref08_tail.calls a0 (wrap64 (a1 + 1)) true _ A37.out).mono ?_); rintro e w' ⟨rfl, ⟨nd, rfl⟩⟩; (try first | exact ⟨rfl, _, World.drewN_drewN _ _ _⟩ | exact ⟨rfl, _, Eq.trans (World.drewN_drewN _ _ _) (congrArg (World.drewN _) (Nat.add_assoc _ _ _))⟩)) | (go_at_call 27; (with_reducible refine (letterboxref08_tail.calls a0 (wrap64 (a1 + 2)) true _ A39.out).mono ?_); rintro e w' ⟨rfl, ⟨nd, rfl⟩⟩; (try first | exact ⟨rfl, _, World.drewN_drewN _ _ _⟩ | exact ⟨rfl, _, Eq.trans (World.drewN_drewN _ _ _) (congrArg (World.drewN _) (Nat.add_assoc _ _ _))⟩)) | (go_at_call 27; (with_reducible refine (letterboxref08_tail.calls a0 (wrap64 (a1 + 3)) t147 _ A41.out).mono ?_); rintro e w' ⟨rfl, ⟨nd, rfl⟩⟩; (try first | exact ⟨rfl, _, World.drewN_drewN _ _ _⟩ | exact ⟨rfl, _, Eq.trans (World.drewN_drewN _ _ _) (congrArg (World.drewN _) (Nat.add_assoc _ _ _))⟩)))
                              repeat (go_quiet (first | (go_at_call 27; (with_reducible refine (letterboxref08_tail.calls a0 (wrap64 (a1 + 1)) true _ A37.out).mono ?_); rintro e w' ⟨rfl, ⟨nd, rfl⟩⟩; (try first | exact ⟨rfl, _, World.drewN_drewN _ _ _⟩ | exact ⟨rfl, _, Eq.trans (World.drewN_drewN _ _ _) (congrArg (World.drewN _) (Nat.add_assoc _ _ _))⟩)) | (go_at_call 27; (with_reducible refine (letterboxref08_tail.calls a0 (wrap64 (a1 + 2)) true _ A39.out).mono ?_); rintro e w' ⟨rfl, ⟨nd, rfl⟩⟩; (try first | exact ⟨rfl, _, World.drewN_drewN _ _ _⟩ | exact ⟨rfl, _, Eq.trans (World.drewN_drewN _ _ _) (congrArg (World.drewN _) (Nat.add_assoc _ _ _))⟩)) | (go_at_call 27; (with_reducible refine (letterboxref08_tail.calls a0 (wrap64 (a1 + 3)) t147 _ A41.out).mono ?_); rintro e w' ⟨rfl, ⟨nd, rfl⟩⟩; (try first | exact ⟨rfl, _, World.drewN_drewN _ _ _⟩ | exact ⟨rfl, _, Eq.trans (World.drewN_drewN _ _ _) (congrArg (World.drewN _) (Nat.add_assoc _ _ _))⟩))); try go_wp2_with (first | (go_at_call 27; (with_reducible refine (letterboxref08_tail.calls a0 (wrap64 (a1 + 1)) true _ A37.out).mono ?_); rintro e w' ⟨rfl, ⟨nd, rfl⟩⟩; (try first | exact ⟨rfl, _, World.drewN_drewN _ _ _⟩ | exact ⟨rfl, _, Eq.trans (World.drewN_drewN _ _ _) (congrArg (World.drewN _) (Nat.add_assoc _ _ _))⟩)) | (go_at_call 27; (with_reducible refine (letterboxref08_tail.calls a0 (wrap64 (a1 + 2)) true _ A39.out).mono ?_); rintro e w' ⟨rfl, ⟨nd, rfl⟩⟩; (try first | exact ⟨rfl, _, World.drewN_drewN _ _ _⟩ | exact ⟨rfl, _, Eq.trans (World.drewN_drewN _ _ _) (congrArg (World.drewN _) (Nat.add_assoc _ _ _))⟩)) | (go_at_call 27; (with_reducible refine (letterboxref08_tail.calls a0 (wrap64 (a1 + 3)) t147 _ A41.out).mono ?_); rintro e w' ⟨rfl, ⟨nd, rfl⟩⟩; (try first | exact ⟨rfl, _, World.drewN_drewN _ _ _⟩ | exact ⟨rfl, _, Eq.trans (World.drewN_drewN _ _ _) (congrArg (World.drewN _) (Nat.add_assoc _ _ _))⟩))))
                              go_meet
                              case rel => exact ⟨_, (t147), (by first | rfl | (simp; done) | (simp [*]; done)), (by first | exact H' | (rw [hji27]; exact H') | (rw [hji23]; exact H') | (rw [hji12]; exact H')), ⟨by have := HJ6.out; have := HJ15.out; first | omega | exact Nat.le_refl _⟩, by repeat (first | exact Drawn0.refl _ | apply Drawn0.step)⟩
                            · replace c40 := Bool.eq_false_iff.mpr c40
                              subst c40
                              have H1 : (letterboxref08_Char.j2 kj15 a0 a1 (wrap64 (bt a0 a1)) false) = some (r1, r2) := by rw [if_neg (show ¬ (false = true) by decide)] at H; exact H
                              clear H
                              have H := H1
                              clear H1
                              have H' := Aside0.mk H
                              clear H
                              go_wp2_with (first | (go_at_call 27; (with_reducible refine (letterboxref08_tail.calls a0 (wrap64 (a1 + 1)) true _ A37.out).mono ?_); rintro e w' ⟨rfl, ⟨nd, rfl⟩⟩; (try first | exact ⟨rfl, _, World.drewN_drewN _ _ _⟩ | exact ⟨rfl, _, Eq.trans (World.drewN_drewN _ _ _) (congrArg (World.drewN _) (Nat.add_assoc _ _ _))⟩)) | (go_at_call 27; (with_reducible refine (letterboxref08_tail.calls a0 (wrap64 (a1 + 2)) false _ A39.out).mono ?_); rintro e w' ⟨rfl, ⟨nd, rfl⟩⟩; (try first | exact ⟨rfl, _, World.drewN_drewN _ _ _⟩ | exact ⟨rfl, _, Eq.trans (World.drewN_drewN _ _ _) (congrArg (World.drewN _) (Nat.add_assoc _ _ _))⟩)))
                              repeat (go_quiet (first | (go_at_call 27; (with_reducible refine (letterboxref08_tail.calls a0 (wrap64 (a1 + 1)) true _ A37.out).mono ?_); rintro e w' ⟨rfl, ⟨nd, rfl⟩⟩; (try first | exact ⟨rfl, _, World.drewN_drewN _ _ _⟩ | exact ⟨rfl, _, Eq.trans (World.drewN_drewN _ _ _) (congrArg (World.drewN _) (Nat.add_assoc _ _ _))⟩)) | (go_at_call 27; (with_reducible refine (letterboxref08_tail.calls a0 (wrap64 (a1 + 2)) false _ A39.out).mono ?_); rintro e w' ⟨rfl, ⟨nd, rfl⟩⟩; (try first | exact ⟨rfl, _, World.drewN_drewN _ _ _⟩ | exact ⟨rfl, _, Eq.trans (World.drewN_drewN _ _ _) (congrArg (World.drewN _) (Nat.add_assoc _ _ _))⟩))); try go_wp2_with (first | (go_at_call 27; (with_reducible refine (letterboxref08_tail.calls a0 (wrap64 (a1 + 1)) true _ A37.out).mono ?_); rintro e w' ⟨rfl, ⟨nd, rfl⟩⟩; (try first | exact ⟨rfl, _, World.drewN_drewN _ _ _⟩ | exact ⟨rfl, _, Eq.trans (World.drewN_drewN _ _ _) (congrArg (World.drewN _) (Nat.add_assoc _ _ _))⟩)) | (go_at_call 27; (with_reducible refine (letterboxref08_tail.calls a0 (wrap64 (a1 + 2)) false _ A39.out).mono ?_); rintro e w' ⟨rfl, ⟨nd, rfl⟩⟩; (try first | exact ⟨rfl, _, World.drewN_drewN _ _ _⟩ | exact ⟨rfl, _, Eq.trans (World.drewN_drewN _ _ _) (congrArg (World.drewN _) (Nat.add_assoc _ _ _))⟩))))
                              go_meet
                              case rel => exact ⟨_, (false), (by first | rfl | (simp; done) | (simp [*]; done)), (by first | exact H' | (rw [hji27]; exact H') | (rw [hji23]; exact H') | (rw [hji12]; exact H')), ⟨by have := HJ6.out; have := HJ15.out; first | omega | exact Nat.le_refl _⟩, by repeat (first | exact Drawn0.refl _ | apply Drawn0.step)⟩
                          · replace c38 := Bool.eq_false_iff.mpr c38
                            subst c38
                            have H1 : (letterboxref08_Char.j2 kj15 a0 a1 (wrap64 (bt a0 a1)) false) = some (r1, r2) := by rw [if_neg (show ¬ (false = true) by decide)] at H; exact H
                            clear H
                            have H := H1
                            clear H1
                            have H' := Aside0.mk H
                            clear H
                            go_wp2_with (first | (go_at_call 27; (with_reducible refine (letterboxref08_tail.calls a0 (wrap64 (a1 + 1)) false _ A37.out).mono ?_); rintro e w' ⟨rfl, ⟨nd, rfl⟩⟩; (try first | exact ⟨rfl, _, World.drewN_drewN _ _ _⟩ | exact ⟨rfl, _, Eq.trans (World.drewN_drewN _ _ _) (congrArg (World.drewN _) (Nat.add_assoc _ _ _))⟩)))
                            repeat (go_quiet (first | (go_at_call 27; (with_reducible refine (letterboxref08_tail.calls a0 (wrap64 (a1 + 1)) false _ A37.out).mono ?_); rintro e w' ⟨rfl, ⟨nd, rfl⟩⟩; (try first | exact ⟨rfl, _, World.drewN_drewN _ _ _⟩ | exact ⟨rfl, _, Eq.trans (World.drewN_drewN _ _ _) (congrArg (World.drewN _) (Nat.add_assoc _ _ _))⟩))); try go_wp2_with (first | (go_at_call 27; (with_reducible refine (letterboxref08_tail.calls a0 (wrap64 (a1 + 1)) false _ A37.out).mono ?_); rintro e w' ⟨rfl, ⟨nd, rfl⟩⟩; (try first | exact ⟨rfl, _, World.drewN_drewN _ _ _⟩ | exact ⟨rfl, _, Eq.trans (World.drewN_drewN _ _ _) (congrArg (World.drewN _) (Nat.add_assoc _ _ _))⟩))))
                            go_meet
                            case rel => exact ⟨_, (false), (by first | rfl | (simp; done) | (simp [*]; done)), (by first | exact H' | (rw [hji27]; exact H') | (rw [hji23]; exact H') | (rw [hji12]; exact H')), ⟨by have := HJ6.out; have := HJ15.out; first | omega | exact Nat.le_refl _⟩, by repeat (first | exact Drawn0.refl _ | apply Drawn0.step)⟩
                        · rw [if_neg c36] at H
                          have c36b0 : decide ((wrap64 (bt a0 a1)) < 245) = false := decide_eq_false c36
                          clear c36
                          have H' := Aside0.mk H
                          clear H
                          go_wp2
                          repeat (go_quiet (fail); try go_wp2)
                          go_meet
                          case rel => exact ⟨_, (false), (by first | rfl | (simp; done) | (simp [*]; done)), (by first | exact H' | (rw [hji27]; exact H') | (rw [hji23]; exact H') | (rw [hji12]; exact H')), ⟨by have := HJ6.out; have := HJ15.out; first | omega | exact Nat.le_refl _⟩, by repeat (first | exact Drawn0.refl _ | apply Drawn0.step)⟩
                      · rw [if_neg c35] at H
                        have c35b0 : decide (240 ≤ (wrap64 (bt a0 a1))) = false := decide_eq_false c35
                        clear c35
                        (first | rw [c35b0] | (simp only [i64_w, i32_w]; rw [c35b0]) | skip)
                        have H' := Aside0.mk H
                        clear H
                        go_wp2
                        repeat (go_quiet (fail); try go_wp2)
                        go_meet
                        case rel => exact ⟨_, (false), (by first | rfl | (simp; done) | (simp [*]; done)), (by first | exact H' | (rw [hji27]; exact H') | (rw [hji23]; exact H') | (rw [hji12]; exact H')), ⟨by have := HJ6.out; have := HJ15.out; first | omega | exact Nat.le_refl _⟩, by repeat (first | exact Drawn0.refl _ | apply Drawn0.step)⟩
                    case rest =>
                      clear HC34
                      try clear c1
                      try clear p1
                      try clear q1
                      try clear hx1
                      try clear c2
                      try clear p2
                      try clear q2
                      try clear hx2
                      try clear c3
                      try clear c3b0
                      try clear p3
                      try clear q3
                      try clear hx3
                      try clear c4
                      try clear c4b0
                      try clear p5
                      try clear q5
                      try clear hx5
                      try clear c6
                      try clear c6b0
                      try clear p6
                      try clear c8
                      try clear c8b0
                      try clear c9
                      try clear c9b0
                      try clear c11
                      try clear c13
                      try clear c13b0
                      try clear c14
                      try clear c14b0
                      try clear c15
                      try clear p15
                      try clear q15
                      try clear hx15
                      try clear c17
                      try clear c17b0
                      try clear c18
                      try clear c18b0
                      try clear c20
                      try clear c22
                      try clear c24
                      try clear c24b0
                      try clear c25
                      try clear c25b0
                      try clear p26
                      try clear q26
                      try clear hx26
                      try clear c28
                      try clear c28b0
                      try clear c29
                      try clear c29b0
                      try clear p30
                      try clear q30
                      try clear hx30
                      try clear c31
                      try clear c31b0
                      try clear c32
                      try clear c32b0
                      try clear c33
                      try clear c33b0
                      try clear c35
                      try clear c35b0
                      try clear c36
                      try clear c36b0
                      try clear c38
                      try clear c40
                      try clear p1
                      try clear p15
                      try clear p2
                      try clear p26
                      try clear p30
                      try clear p5
                      try clear p6
                      try clear q1
                      try clear q15
                      try clear q26
                      try clear q30
                      try clear q5
                      obtain ⟨kq, x108_33, rfl, HA, HJ33, ⟨mc33, rfl⟩⟩ := hcut
                      cases kq with
                      | zero => exact absurd HA.out (by simp [letterboxref08_Char.j2])
                      | succ kj33 =>
                        have H := HA.out
                        clear HA
                        simp only [letterboxref08_Char.j2] at H
                        by_cases c42 : x108_33 = true
                        · subst c42
                          have H1 : (if 0 ≤ (wrap64 (a1 + 1)) then (if (wrap64 (a1 + 1)) < (a0.size : Int) then (if 0 ≤ (wrap64 (a1 + 2)) then (if (wrap64 (a1 + 2)) < (a0.size : Int) then (if 0 ≤ (wrap64 (a1 + 3)) then (if (wrap64 (a1 + 3)) < (a0.size : Int) then (if (wrap64 ((wrap64 ((wrap64 ((wrap64 ((wrap64 ((wrap64 ((wrap64 (bt a0 a1)) - 240)) * 262144)) + (wrap64 ((wrap64 ((wrap64 (bt a0 (wrap64 (a1 + 1)))) - 128)) * 4096)))) + (wrap64 ((wrap64 ((wrap64 (bt a0 (wrap64 (a1 + 2)))) - 128)) * 64)))) + (wrap64 (bt a0 (wrap64 (a1 + 3)))))) - 128)) ≥ 65536 then (if (wrap64 ((wrap64 ((wrap64 ((wrap64 ((wrap64 ((wrap64 ((wrap64 (bt a0 a1)) - 240)) * 262144)) + (wrap64 ((wrap64 ((wrap64 (bt a0 (wrap64 (a1 + 1)))) - 128)) * 4096)))) + (wrap64 ((wrap64 ((wrap64 (bt a0 (wrap64 (a1 + 2)))) - 128)) * 64)))) + (wrap64 (bt a0 (wrap64 (a1 + 3)))))) - 128)) ≤ 1114111 then (some (wrap64 ((wrap64 ((wrap64 ((wrap64 ((wrap64 ((wrap64 ((wrap64 (bt a0 a1)) - 240)) * 262144)) + (wrap64 ((wrap64 ((wrap64 (bt a0 (wrap64 (a1 + 1)))) - 128)) * 4096)))) + (wrap64 ((wrap64 ((wrap64 (bt a0 (wrap64 (a1 + 2)))) - 128)) * 64)))) + (wrap64 (bt a0 (wrap64 (a1 + 3)))))) - 128), 4)) else (some (0, 0))) else (some (0, 0))) else (none)) else (none)) else (none)) else (none)) else (none)) else (none)) = some (r1, r2) := by rw [if_pos rfl] at H; exact H
                          clear H
                          have H := H1
                          clear H1
                          obtain ⟨ji43, hji43⟩ : ∃ j_ : Int, (wrap64 (a1 + 1)) = j_ := ⟨_, rfl⟩
                          replace H : (if 0 ≤ (ji43) then (if (ji43) < (a0.size : Int) then (if 0 ≤ (wrap64 (a1 + 2)) then (if (wrap64 (a1 + 2)) < (a0.size : Int) then (if 0 ≤ (wrap64 (a1 + 3)) then (if (wrap64 (a1 + 3)) < (a0.size : Int) then (if (wrap64 ((wrap64 ((wrap64 ((wrap64 ((wrap64 ((wrap64 ((wrap64 (bt a0 a1)) - 240)) * 262144)) + (wrap64 ((wrap64 ((wrap64 (bt a0 (ji43))) - 128)) * 4096)))) + (wrap64 ((wrap64 ((wrap64 (bt a0 (wrap64 (a1 + 2)))) - 128)) * 64)))) + (wrap64 (bt a0 (wrap64 (a1 + 3)))))) - 128)) ≥ 65536 then (if (wrap64 ((wrap64 ((wrap64 ((wrap64 ((wrap64 ((wrap64 ((wrap64 (bt a0 a1)) - 240)) * 262144)) + (wrap64 ((wrap64 ((wrap64 (bt a0 (ji43))) - 128)) * 4096)))) + (wrap64 ((wrap64 ((wrap64 (bt a0 (wrap64 (a1 + 2)))) - 128)) * 64)))) + (wrap64 (bt a0 (wrap64 (a1 + 3)))))) - 128)) ≤ 1114111 then (some (wrap64 ((wrap64 ((wrap64 ((wrap64 ((wrap64 ((wrap64 ((wrap64 (bt a0 a1)) - 240)) * 262144)) + (wrap64 ((wrap64 ((wrap64 (bt a0 (ji43))) - 128)) * 4096)))) + (wrap64 ((wrap64 ((wrap64 (bt a0 (wrap64 (a1 + 2)))) - 128)) * 64)))) + (wrap64 (bt a0 (wrap64 (a1 + 3)))))) - 128), 4)) else (some (0, 0))) else (some (0, 0))) else (none)) else (none)) else (none)) else (none)) else (none)) else (none)) = some (r1, r2) := by first | (rw [hji43] at H; exact H) | (simp only [hji43] at H ⊢; exact H)
                          have hji43w : (IntKind.i64.wrap (a1 + 1)) = ji43 := (i64_w _).trans hji43
                          by_cases c44 : 0 ≤ (ji43)
                          · rw [if_pos c44] at H
                            have c44b0 : decide (0 ≤ (ji43)) = true := decide_eq_true c44
                            clear c44
                            by_cases c45 : (ji43) < (a0.size : Int)
                            · rw [if_pos c45] at H
                              have c45b0 : decide ((ji43) < (a0.size : Int)) = true := decide_eq_true c45
                              clear c45
                              obtain ⟨ji47, hji47⟩ : ∃ j_ : Int, (wrap64 (a1 + 2)) = j_ := ⟨_, rfl⟩
                              replace H : (if 0 ≤ (ji47) then (if (ji47) < (a0.size : Int) then (if 0 ≤ (wrap64 (a1 + 3)) then (if (wrap64 (a1 + 3)) < (a0.size : Int) then (if (wrap64 ((wrap64 ((wrap64 ((wrap64 ((wrap64 ((wrap64 ((wrap64 (bt a0 a1)) - 240)) * 262144)) + (wrap64 ((wrap64 ((wrap64 (bt a0 (ji43))) - 128)) * 4096)))) + (wrap64 ((wrap64 ((wrap64 (bt a0 (ji47))) - 128)) * 64)))) + (wrap64 (bt a0 (wrap64 (a1 + 3)))))) - 128)) ≥ 65536 then (if (wrap64 ((wrap64 ((wrap64 ((wrap64 ((wrap64 ((wrap64 ((wrap64 (bt a0 a1)) - 240)) * 262144)) + (wrap64 ((wrap64 ((wrap64 (bt a0 (ji43))) - 128)) * 4096)))) + (wrap64 ((wrap64 ((wrap64 (bt a0 (ji47))) - 128)) * 64)))) + (wrap64 (bt a0 (wrap64 (a1 + 3)))))) - 128)) ≤ 1114111 then (some (wrap64 ((wrap64 ((wrap64 ((wrap64 ((wrap64 ((wrap64 ((wrap64 (bt a0 a1)) - 240)) * 262144)) + (wrap64 ((wrap64 ((wrap64 (bt a0 (ji43))) - 128)) * 4096)))) + (wrap64 ((wrap64 ((wrap64 (bt a0 (ji47))) - 128)) * 64)))) + (wrap64 (bt a0 (wrap64 (a1 + 3)))))) - 128), 4)) else (some (0, 0))) else (some (0, 0))) else (none)) else (none)) else (none)) else (none)) = some (r1, r2) := by first | (rw [hji47] at H; exact H) | (simp only [hji47] at H ⊢; exact H)
                              have hji47w : (IntKind.i64.wrap (a1 + 2)) = ji47 := (i64_w _).trans hji47
                              by_cases c48 : 0 ≤ (ji47)
                              · rw [if_pos c48] at H
                                have c48b0 : decide (0 ≤ (ji47)) = true := decide_eq_true c48
                                clear c48
                                by_cases c49 : (ji47) < (a0.size : Int)
                                · rw [if_pos c49] at H
                                  have c49b0 : decide ((ji47) < (a0.size : Int)) = true := decide_eq_true c49
                                  clear c49
                                  obtain ⟨ji51, hji51⟩ : ∃ j_ : Int, (wrap64 (a1 + 3)) = j_ := ⟨_, rfl⟩
                                  replace H : (if 0 ≤ (ji51) then (if (ji51) < (a0.size : Int) then (if (wrap64 ((wrap64 ((wrap64 ((wrap64 ((wrap64 ((wrap64 ((wrap64 (bt a0 a1)) - 240)) * 262144)) + (wrap64 ((wrap64 ((wrap64 (bt a0 (ji43))) - 128)) * 4096)))) + (wrap64 ((wrap64 ((wrap64 (bt a0 (ji47))) - 128)) * 64)))) + (wrap64 (bt a0 (ji51))))) - 128)) ≥ 65536 then (if (wrap64 ((wrap64 ((wrap64 ((wrap64 ((wrap64 ((wrap64 ((wrap64 (bt a0 a1)) - 240)) * 262144)) + (wrap64 ((wrap64 ((wrap64 (bt a0 (ji43))) - 128)) * 4096)))) + (wrap64 ((wrap64 ((wrap64 (bt a0 (ji47))) - 128)) * 64)))) + (wrap64 (bt a0 (ji51))))) - 128)) ≤ 1114111 then (some (wrap64 ((wrap64 ((wrap64 ((wrap64 ((wrap64 ((wrap64 ((wrap64 (bt a0 a1)) - 240)) * 262144)) + (wrap64 ((wrap64 ((wrap64 (bt a0 (ji43))) - 128)) * 4096)))) + (wrap64 ((wrap64 ((wrap64 (bt a0 (ji47))) - 128)) * 64)))) + (wrap64 (bt a0 (ji51))))) - 128), 4)) else (some (0, 0))) else (some (0, 0))) else (none)) else (none)) = some (r1, r2) := by first | (rw [hji51] at H; exact H) | (simp only [hji51] at H ⊢; exact H)
                                  have hji51w : (IntKind.i64.wrap (a1 + 3)) = ji51 := (i64_w _).trans hji51
                                  by_cases c52 : 0 ≤ (ji51)
                                  · rw [if_pos c52] at H
                                    have c52b0 : decide (0 ≤ (ji51)) = true := decide_eq_true c52
                                    clear c52
                                    by_cases c53 : (ji51) < (a0.size : Int)
                                    · rw [if_pos c53] at H
                                      have c53b0 : decide ((ji51) < (a0.size : Int)) = true := decide_eq_true c53
                                      clear c53
                                      by_cases c55 : (wrap64 ((wrap64 ((wrap64 ((wrap64 ((wrap64 ((wrap64 ((wrap64 (bt a0 a1)) - 240)) * 262144)) + (wrap64 ((wrap64 ((wrap64 (bt a0 (ji43))) - 128)) * 4096)))) + (wrap64 ((wrap64 ((wrap64 (bt a0 (ji47))) - 128)) * 64)))) + (wrap64 (bt a0 (ji51))))) - 128)) ≥ 65536
                                      · rw [if_pos c55] at H
                                        have c55b0 : decide (65536 ≤ (wrap64 ((wrap64 ((wrap64 ((wrap64 ((wrap64 ((wrap64 ((wrap64 (bt a0 a1)) - 240)) * 262144)) + (wrap64 ((wrap64 ((wrap64 (bt a0 (ji43))) - 128)) * 4096)))) + (wrap64 ((wrap64 ((wrap64 (bt a0 (ji47))) - 128)) * 64)))) + (wrap64 (bt a0 (ji51))))) - 128))) = true := decide_eq_true c55
                                        clear c55
                                        by_cases c56 : (wrap64 ((wrap64 ((wrap64 ((wrap64 ((wrap64 ((wrap64 ((wrap64 (bt a0 a1)) - 240)) * 262144)) + (wrap64 ((wrap64 ((wrap64 (bt a0 (ji43))) - 128)) * 4096)))) + (wrap64 ((wrap64 ((wrap64 (bt a0 (ji47))) - 128)) * 64)))) + (wrap64 (bt a0 (ji51))))) - 128)) ≤ 1114111
                                        · rw [if_pos c56] at H
                                          have c56b0 : decide ((wrap64 ((wrap64 ((wrap64 ((wrap64 ((wrap64 ((wrap64 ((wrap64 (bt a0 a1)) - 240)) * 262144)) + (wrap64 ((wrap64 ((wrap64 (bt a0 (ji43))) - 128)) * 4096)))) + (wrap64 ((wrap64 ((wrap64 (bt a0 (ji47))) - 128)) * 64)))) + (wrap64 (bt a0 (ji51))))) - 128)) ≤ 1114111) = true := decide_eq_true c56
                                          clear c56
                                          simp only [Option.some.injEq, Prod.mk.injEq] at H
                                          obtain ⟨rfl, rfl⟩ := H
                                          have p46 : 0 ≤ ((ji43) : Int) := of_decide_eq_true (by first | (with_reducible assumption) | assumption)
                                          have q46 : (ji43) < (a0.size : Int) := of_decide_eq_true (by first | (with_reducible assumption) | assumption)
                                          have hx46 := bt_at a0 (ji43)
                                          replace p46 := eq_true p46
                                          replace q46 := eq_true q46
                                          have p50 : 0 ≤ ((ji47) : Int) := of_decide_eq_true (by first | (with_reducible assumption) | assumption)
                                          have q50 : (ji47) < (a0.size : Int) := of_decide_eq_true (by first | (with_reducible assumption) | assumption)
                                          have hx50 := bt_at a0 (ji47)
                                          replace p50 := eq_true p50
                                          replace q50 := eq_true q50
                                          have p54 : 0 ≤ ((ji51) : Int) := of_decide_eq_true (by first | (with_reducible assumption) | assumption)
                                          have q54 : (ji51) < (a0.size : Int) := of_decide_eq_true (by first | (with_reducible assumption) | assumption)
                                          have hx54 := bt_at a0 (ji51)
                                          replace p54 := eq_true p54
                                          replace q54 := eq_true q54
                                          go_wp2
                                          repeat (go_quiet (fail); try go_wp2)
                                          go_ret2
                                          exact ⟨by first | rfl | (simp; done) | (simp only [← hji43, ← hji47, ← hji51] <;> (first | rfl | simp)) | (simp [*]; done), by repeat (first | exact Drawn0.refl _ | apply Drawn0.step)⟩
                                        · rw [if_neg c56] at H
                                          have c56b0 : decide ((wrap64 ((wrap64 ((wrap64 ((wrap64 ((wrap64 ((wrap64 ((wrap64 (bt a0 a1)) - 240)) * 262144)) + (wrap64 ((wrap64 ((wrap64 (bt a0 (ji43))) - 128)) * 4096)))) + (wrap64 ((wrap64 ((wrap64 (bt a0 (ji47))) - 128)) * 64)))) + (wrap64 (bt a0 (ji51))))) - 128)) ≤ 1114111) = false := decide_eq_false c56
                                          clear c56
                                          simp only [Option.some.injEq, Prod.mk.injEq] at H
                                          obtain ⟨rfl, rfl⟩ := H
                                          have p46 : 0 ≤ ((ji43) : Int) := of_decide_eq_true (by first | (with_reducible assumption) | assumption)
                                          have q46 : (ji43) < (a0.size : Int) := of_decide_eq_true (by first | (with_reducible assumption) | assumption)
                                          have hx46 := bt_at a0 (ji43)
                                          replace p46 := eq_true p46
                                          replace q46 := eq_true q46
                                          have p50 : 0 ≤ ((ji47) : Int) := of_decide_eq_true (by first | (with_reducible assumption) | assumption)
                                          have q50 : (ji47) < (a0.size : Int) := of_decide_eq_true (by first | (with_reducible assumption) | assumption)
                                          have hx50 := bt_at a0 (ji47)
                                          replace p50 := eq_true p50
                                          replace q50 := eq_true q50
                                          have p54 : 0 ≤ ((ji51) : Int) := of_decide_eq_true (by first | (with_reducible assumption) | assumption)
                                          have q54 : (ji51) < (a0.size : Int) := of_decide_eq_true (by first | (with_reducible assumption) | assumption)
                                          have hx54 := bt_at a0 (ji51)
                                          replace p54 := eq_true p54
                                          replace q54 := eq_true q54
                                          go_wp2
                                          repeat (go_quiet (fail); try go_wp2)
                                          go_ret2
                                          exact ⟨by first | rfl | (simp; done) | (simp only [← hji43, ← hji47, ← hji51] <;> (first | rfl | simp)) | (simp [*]; done), by repeat (first | exact Drawn0.refl _ | apply Drawn0.step)⟩
                                      · rw [if_neg c55] at H
                                        have c55b0 : decide (65536 ≤ (wrap64 ((wrap64 ((wrap64 ((wrap64 ((wrap64 ((wrap64 ((wrap64 (bt a0 a1)) - 240)) * 262144)) + (wrap64 ((wrap64 ((wrap64 (bt a0 (ji43))) - 128)) * 4096)))) + (wrap64 ((wrap64 ((wrap64 (bt a0 (ji47))) - 128)) * 64)))) + (wrap64 (bt a0 (ji51))))) - 128))) = false := decide_eq_false c55
                                        clear c55
                                        simp only [Option.some.injEq, Prod.mk.injEq] at H
                                        obtain ⟨rfl, rfl⟩ := H
                                        have p46 : 0 ≤ ((ji43) : Int) := of_decide_eq_true (by first | (with_reducible assumption) | assumption)
                                        have q46 : (ji43) < (a0.size : Int) := of_decide_eq_true (by first | (with_reducible assumption) | assumption)
                                        have hx46 := bt_at a0 (ji43)
                                        replace p46 := eq_true p46
                                        replace q46 := eq_true q46
                                        have p50 : 0 ≤ ((ji47) : Int) := of_decide_eq_true (by first | (with_reducible assumption) | assumption)
                                        have q50 : (ji47) < (a0.size : Int) := of_decide_eq_true (by first | (with_reducible assumption) | assumption)
                                        have hx50 := bt_at a0 (ji47)
                                        replace p50 := eq_true p50
                                        replace q50 := eq_true q50
                                        have p54 : 0 ≤ ((ji51) : Int) := of_decide_eq_true (by first | (with_reducible assumption) | assumption)
                                        have q54 : (ji51) < (a0.size : Int) := of_decide_eq_true (by first | (with_reducible assumption) | assumption)
                                        have hx54 := bt_at a0 (ji51)
                                        replace p54 := eq_true p54
                                        replace q54 := eq_true q54
                                        go_wp2
                                        repeat (go_quiet (fail); try go_wp2)
                                        go_ret2
                                        exact ⟨by first | rfl | (simp; done) | (simp only [← hji43, ← hji47, ← hji51] <;> (first | rfl | simp)) | (simp [*]; done), by repeat (first | exact Drawn0.refl _ | apply Drawn0.step)⟩
                                    · rw [if_neg c53] at H
                                      exact absurd H (by simp)
                                  · rw [if_neg c52] at H
                                    exact absurd H (by simp)
                                · rw [if_neg c49] at H
                                  exact absurd H (by simp)
                              · rw [if_neg c48] at H
                                exact absurd H (by simp)
                            · rw [if_neg c45] at H
                              exact absurd H (by simp)
                          · rw [if_neg c44] at H
                            exact absurd H (by simp)
                        · replace c42 := Bool.eq_false_iff.mpr c42
                          subst c42
                          have H1 : (some (0, 0)) = some (r1, r2) := by rw [if_neg (show ¬ (false = true) by decide)] at H; exact H
                          clear H
                          have H := H1
                          clear H1
                          simp only [Option.some.injEq, Prod.mk.injEq] at H
                          obtain ⟨rfl, rfl⟩ := H
                          go_wp2
                          repeat (go_quiet (fail); try go_wp2)
                          go_ret2
                          exact ⟨by first | rfl | (simp; done) | (simp [*]; done), by repeat (first | exact Drawn0.refl _ | apply Drawn0.step)⟩
    · rw [if_neg c4] at H
      exact absurd H (by simp)
  · rw [if_neg c3] at H
    exact absurd H (by simp)

/-! ### letterboxref08_Valid: function 16 -/
def letterboxref08_Valid.l0 : Nat → ByteArray → Int → Option (Bool)
  | 0, _, _ => none
  | k + 1, x0, x3 => if x3 < (x0.size : Int) then ((letterboxref08_Char.f k x0 x3).bind fun bt148 => (if bt148.2 = 0 then (some false) else (letterboxref08_Valid.l0 k x0 (wrap64 (x3 + bt148.2))))) else (some true)
def letterboxref08_Valid.f (k : Nat) (a0 : ByteArray) : Option (Bool) := letterboxref08_Valid.l0 k a0 0
theorem letterboxref08_Valid.mono_l : ∀ k, (∀ y0 y1, LeO (letterboxref08_Valid.l0 k y0 y1) (letterboxref08_Valid.l0 (k + 1) y0 y1))
  | 0 => fun _ _ r h => by simp [letterboxref08_Valid.l0] at h
  | k + 1 => by
    have ih0 := letterboxref08_Valid.mono_l k
    · intro y0 y1
      unfold letterboxref08_Valid.l0
      repeat' first
      | (with_reducible exact ih0 _ _)
      | (with_reducible exact letterboxref08_Char.mono _ _ _)
      | (with_reducible exact LeO.refl _)
      | (with_reducible exact LeO.none _)
      | (with_reducible refine LeO.ite ?_ ?_)
      | (with_reducible refine LeO.bind ?_ (fun _ => ?_))
      | exact ih0 _ _
      | exact letterboxref08_Char.mono _ _ _
      | exact LeO.none _
      | refine LeO.ite ?_ ?_
      | refine LeO.bind ?_ (fun _ => ?_)
theorem letterboxref08_Valid.mono : ∀ a0 k, LeO (letterboxref08_Valid.f k a0) (letterboxref08_Valid.f (k + 1) a0) := by
  intro a0 k
  have ih0 := letterboxref08_Valid.mono_l k
  unfold letterboxref08_Valid.f
  repeat' first
      | (with_reducible exact ih0 _ _)
      | (with_reducible exact letterboxref08_Char.mono _ _ _)
      | (with_reducible exact LeO.refl _)
      | (with_reducible exact LeO.none _)
      | (with_reducible refine LeO.ite ?_ ?_)
      | (with_reducible refine LeO.bind ?_ (fun _ => ?_))
      | exact ih0 _ _
      | exact letterboxref08_Char.mono _ _ _
      | exact LeO.none _
      | refine LeO.ite ?_ ?_
      | refine LeO.bind ?_ (fun _ => ?_)
set_option maxHeartbeats 8000000 in
set_option maxRecDepth 100000 in
theorem letterboxref08_Valid.calls (k : Nat) (a0 : ByteArray) (r : Bool) (w : World) (h : letterboxref08_Valid.f k a0 = some r) :
    Calls Tryd.prog 16 #[.string a0] w fun e w' => e = .returned (.bool r) ∧ Drawn0 w w' := by
  have H : (letterboxref08_Valid.l0 k a0 0) = some r := h
  clear h
  have H' := Aside0.mk H
  clear H
  go_enter Tryd.func16, Tryd.ntmps16
  go_wp2
  go_loopg [3] k (fun kq v3 w' => ∃ (x3_1 : Int), v3 = .int .i64 x3_1 ∧ Aside0 (letterboxref08_Valid.l0 kq a0 x3_1 = some r) ∧ Aside0 (kq ≤ k) ∧ Drawn0 w w')
  case atStart => exact ⟨(0), (by first | rfl | (simp; done) | (simp [*]; done)), H', ⟨Nat.le_refl _⟩, by repeat (first | exact Drawn0.refl _ | apply Drawn0.step)⟩
  case round =>
    clear H'
    try clear c1
    obtain ⟨x3_1, rfl, HA, HK1, ⟨m1, rfl⟩⟩ := hrel
    cases gk with
    | zero => exact absurd HA.out (by simp [letterboxref08_Valid.l0])
    | succ k1 =>
      have H := HA.out
      clear HA
      simp only [letterboxref08_Valid.l0] at H
      by_cases c2 : x3_1 < (a0.size : Int)
      · rw [if_pos c2] at H
        have c2b0 : decide (x3_1 < (a0.size : Int)) = true := decide_eq_true c2
        clear c2
        replace H := Option.bind_eq_some_iff.mp H
        obtain ⟨⟨t148, t149⟩, A30, H⟩ := H
        replace H : (if t149 = 0 then (some false) else (letterboxref08_Valid.l0 k1 a0 (wrap64 (x3_1 + t149)))) = some r := H
        have A3 := Aside0.mk A30
        clear A30
        by_cases c4 : t149 = 0
        · rw [if_pos c4] at H
          have c4b0 : (t149 == 0) = true := beq_iff_eq.mpr c4
          have c4b1 : (t149 != 0) = false := bne_eq_false_iff_eq.mpr c4
          clear c4
          obtain rfl := Option.some.inj H
          go_wp2_with (first | ((with_reducible refine gate_callee (f := 18) rfl ?_); refine goesL_ (some 13) rfl rfl Tryd.func18 (by kernel_rfl) rfl #[.string a0, .int .i64 x3_1] rfl (by (try simp only [List.map_toArray, List.map_cons, List.map_nil]); first | done | rfl | (simp only [List.length_drop, List.length_take]; rfl)) ?_; (with_reducible refine (letterboxref08_Char.calls k1 a0 x3_1 t148 t149 _ A3.out).mono ?_); rintro e w' ⟨rfl, ⟨nd, rfl⟩⟩; refine ⟨_, rfl, ?_⟩))
          go_ret
          exact ⟨by first | rfl | (simp; done) | (simp [*]; done), by repeat (first | exact Drawn0.refl _ | apply Drawn0.step)⟩
        · rw [if_neg c4] at H
          have c4b0 : (t149 == 0) = false := beq_eq_false_iff_ne.mpr c4
          have c4b1 : (t149 != 0) = true := bne_iff_ne.mpr c4
          have H' := Aside0.mk H
          clear H
          go_wp2_with (first | ((with_reducible refine gate_callee (f := 18) rfl ?_); refine goesL_ (some 13) rfl rfl Tryd.func18 (by kernel_rfl) rfl #[.string a0, .int .i64 x3_1] rfl (by (try simp only [List.map_toArray, List.map_cons, List.map_nil]); first | done | rfl | (simp only [List.length_drop, List.length_take]; rfl)) ?_; (with_reducible refine (letterboxref08_Char.calls k1 a0 x3_1 t148 t149 _ A3.out).mono ?_); rintro e w' ⟨rfl, ⟨nd, rfl⟩⟩; refine ⟨_, rfl, ?_⟩))
          go_roundg k1
          case measure => have := HK1.out; omega
          case rel => exact ⟨(wrap64 (x3_1 + t149)), (by first | rfl | (simp; done) | (simp [*]; done)), H', ⟨by have := HK1.out; omega⟩, by repeat (first | exact Drawn0.refl _ | apply Drawn0.step)⟩
      · rw [if_neg c2] at H
        have c2b0 : decide (x3_1 < (a0.size : Int)) = false := decide_eq_false c2
        clear c2
        obtain rfl := Option.some.inj H
        go_wp2
        go_ret
        exact ⟨by first | rfl | (simp; done) | (simp [*]; done), by repeat (first | exact Drawn0.refl _ | apply Drawn0.step)⟩

end Go.Proofs.YtoihcdahloddkaaDoor.P
