-- Written by a program of this session (wip/tools/mk.sh) for this claim: it runs the kit's print with contracts of our own. Lean checks it.
import Derived.Test.YtoihcdahloddkaaDoorPx0
import Derived.Test.YtoihcdahloddkaaDoorPx1
namespace Go.Proofs.YtoihcdahloddkaaDoor.P
open Go.RowKit Go.Proofs.YtoihcdahloddkaaDoorW.PrintWords Go.Proofs.YtoihcdahloddkaaDoorW.PrintLast Go.Proofs.YtoihcdahloddkaaDoorW.PrintMore
attribute [-simp] Int.tmod_tmod_of_dvd
attribute [local go_sem] max2_int min2_int max_two min_two max_three min_three max_four min_four   -- for this text's walks alone
set_option linter.unusedVariables false
set_option linter.unusedSimpArgs false

/-! ### letterboxref08_kind: function 15 -/
mutual
def letterboxref08_kind.j0 : Nat → ByteArray → Bool → Option (Int)
  | 0, _, _ => none
  | k + 1, x3, x11 => if x11 = true then (some 1) else (if x3.toList = ([105, 115, 111, 45, 56, 56, 53, 57, 45, 49] : List UInt8) then (letterboxref08_kind.j1 k x3 true) else (letterboxref08_kind.j1 k x3 (x3.toList == ([108, 97, 116, 105, 110, 49] : List UInt8))))
def letterboxref08_kind.j1 : Nat → ByteArray → Bool → Option (Int)
  | 0, _, _ => none
  | k + 1, x3, x17 => if x17 = true then (some 2) else (if x3.toList = ([117, 116, 102, 45, 56] : List UInt8) then (some 3) else (if x3.toList = ([117, 116, 102, 56] : List UInt8) then (some 3) else (some 0)))
end
def letterboxref08_kind.f (k : Nat) (a0 : ByteArray) : Option (Int) := (letterboxref01_Fold.f k a0).bind fun t141 => (if t141.toList = ([117, 115, 45, 97, 115, 99, 105, 105] : List UInt8) then (letterboxref08_kind.j0 k t141 true) else (letterboxref08_kind.j0 k t141 (t141.toList == ([97, 115, 99, 105, 105] : List UInt8))))
theorem letterboxref08_kind.mono_l : ∀ k, (∀ y0 y1, LeO (letterboxref08_kind.j0 k y0 y1) (letterboxref08_kind.j0 (k + 1) y0 y1)) ∧ (∀ y0 y1, LeO (letterboxref08_kind.j1 k y0 y1) (letterboxref08_kind.j1 (k + 1) y0 y1))
  | 0 => ⟨fun _ _ r h => by simp [letterboxref08_kind.j0] at h, fun _ _ r h => by simp [letterboxref08_kind.j1] at h⟩
  | k + 1 => by
    obtain ⟨ih0, ih1⟩ := letterboxref08_kind.mono_l k
    refine ⟨?_, ?_⟩
    · intro y0 y1
      unfold letterboxref08_kind.j0
      repeat' first
      | (with_reducible exact ih0 _ _)
      | (with_reducible exact ih1 _ _)
      | (with_reducible exact letterboxref01_Fold.mono _ _)
      | (with_reducible exact LeO.refl _)
      | (with_reducible exact LeO.none _)
      | (with_reducible refine LeO.ite ?_ ?_)
      | (with_reducible refine LeO.bind ?_ (fun _ => ?_))
      | exact ih0 _ _
      | exact ih1 _ _
      | exact letterboxref01_Fold.mono _ _
      | exact LeO.none _
      | refine LeO.ite ?_ ?_
      | refine LeO.bind ?_ (fun _ => ?_)
    · intro y0 y1
      unfold letterboxref08_kind.j1
      repeat' first
      | (with_reducible exact ih0 _ _)
      | (with_reducible exact ih1 _ _)
      | (with_reducible exact letterboxref01_Fold.mono _ _)
      | (with_reducible exact LeO.refl _)
      | (with_reducible exact LeO.none _)
      | (with_reducible refine LeO.ite ?_ ?_)
      | (with_reducible refine LeO.bind ?_ (fun _ => ?_))
      | exact ih0 _ _
      | exact ih1 _ _
      | exact letterboxref01_Fold.mono _ _
      | exact LeO.none _
      | refine LeO.ite ?_ ?_
      | refine LeO.bind ?_ (fun _ => ?_)
theorem letterboxref08_kind.mono : ∀ a0 k, LeO (letterboxref08_kind.f k a0) (letterboxref08_kind.f (k + 1) a0) := by
  intro a0 k
  obtain ⟨ih0, ih1⟩ := letterboxref08_kind.mono_l k
  unfold letterboxref08_kind.f
  repeat' first
      | (with_reducible exact ih0 _ _)
      | (with_reducible exact ih1 _ _)
      | (with_reducible exact letterboxref01_Fold.mono _ _)
      | (with_reducible exact LeO.refl _)
      | (with_reducible exact LeO.none _)
      | (with_reducible refine LeO.ite ?_ ?_)
      | (with_reducible refine LeO.bind ?_ (fun _ => ?_))
      | exact ih0 _ _
      | exact ih1 _ _
      | exact letterboxref01_Fold.mono _ _
      | exact LeO.none _
      | refine LeO.ite ?_ ?_
      | refine LeO.bind ?_ (fun _ => ?_)
set_option maxHeartbeats 8000000 in
set_option maxRecDepth 100000 in
theorem letterboxref08_kind.calls (k : Nat) (a0 : ByteArray) (r : Int) (w : World) (h : letterboxref08_kind.f k a0 = some r) :
    Calls Tryd.prog 15 #[.string a0] w fun e w' => e = .returned (.int .i64 r) ∧ Below w.heap.size w w' := by
  have HB := Aside0.mk (Below.refl w.heap.size w)
  have H : ((letterboxref01_Fold.f k a0).bind fun t141 => (if t141.toList = ([117, 115, 45, 97, 115, 99, 105, 105] : List UInt8) then (letterboxref08_kind.j0 k t141 true) else (letterboxref08_kind.j0 k t141 (t141.toList == ([97, 115, 99, 105, 105] : List UInt8))))) = some r := h
  clear h
  replace H := Option.bind_eq_some_iff.mp H
  obtain ⟨t141, A20, H⟩ := H
  replace H : (if t141.toList = ([117, 115, 45, 97, 115, 99, 105, 105] : List UInt8) then (letterboxref08_kind.j0 k t141 true) else (letterboxref08_kind.j0 k t141 (t141.toList == ([97, 115, 99, 105, 105] : List UInt8)))) = some r := H
  have A2 := Aside0.mk A20
  clear A20
  have HC3 := Aside0.mk H
  clear H
  go_enter Tryd.func15, Tryd.ntmps15
  go_upto_region 2 with (first | ((with_reducible refine gate_callee (f := 25) rfl ?_); refine goesL_ (some 5) rfl rfl Tryd.func25 (by kernel_rfl) rfl #[.string a0] rfl (by (try simp only [List.map_toArray, List.map_cons, List.map_nil]); first | done | rfl | (simp only [List.length_drop, List.length_take]; rfl)) ?_; (with_reducible refine (letterboxref01_Fold.calls k a0 t141 _ A2.out).mono ?_); rintro e w4 ⟨rfl, hb⟩; refine ⟨_, rfl, ?_⟩; have n0_ := Aside0.mk (below_step (by repeat (first | (with_reducible first | exact HB.out | apply below_alloc | apply pw_below_drewN | apply below_drew1) | exact HB.out)) hb); clear HB; have HB := n0_; clear n0_; (try clear hb); (try clear hb2); (try clear hk); (try clear hi)))
  (try simp only [Act.put, List.setIfInBounds_toArray, List.set_cons_zero, List.set_cons_succ])
  go_cut [11] (fun v11 wc => ∃ (kq : Nat) (x11_2 : Bool), v11 = .bool x11_2 ∧ Aside0 (letterboxref08_kind.j0 kq t141 x11_2 = some r) ∧ Aside0 (kq ≤ k) ∧ Aside0 (Below w.heap.size w wc))
  case first =>
    have H := HC3.out
    clear HC3
    by_cases c5 : t141.toList = ([117, 115, 45, 97, 115, 99, 105, 105] : List UInt8)
    · rw [if_pos c5] at H
      have c5b0 : (t141.toList == ([117, 115, 45, 97, 115, 99, 105, 105] : List UInt8)) = true := beq_iff_eq.mpr c5
      have c5b1 : (t141.toList != ([117, 115, 45, 97, 115, 99, 105, 105] : List UInt8)) = false := bne_eq_false_iff_eq.mpr c5
      clear c5
      (first | rw [c5b0] | (simp only [i64_w, i32_w]; rw [c5b0]) | skip)
      have H' := Aside0.mk H
      clear H
      go_wp2
      go_meet
      case rel => exact ⟨_, (true), (by first | rfl | (simp; done) | (simp [*]; done)), H', ⟨by first | omega | exact Nat.le_refl _⟩, ⟨by repeat (first | (with_reducible first | exact HB.out | apply below_alloc | apply pw_below_drewN | apply below_drew1) | exact HB.out)⟩⟩
    · rw [if_neg c5] at H
      have c5b0 : (t141.toList == ([117, 115, 45, 97, 115, 99, 105, 105] : List UInt8)) = false := beq_eq_false_iff_ne.mpr c5
      have c5b1 : (t141.toList != ([117, 115, 45, 97, 115, 99, 105, 105] : List UInt8)) = true := bne_iff_ne.mpr c5
      (first | rw [c5b0] | (simp only [i64_w, i32_w]; rw [c5b0]) | skip)
      have H' := Aside0.mk H
      clear H
      go_wp2
      go_meet
      case rel => exact ⟨_, ((t141.toList == ([97, 115, 99, 105, 105] : List UInt8))), (by first | rfl | (simp; done) | (simp [*]; done)), H', ⟨by first | omega | exact Nat.le_refl _⟩, ⟨by repeat (first | (with_reducible first | exact HB.out | apply below_alloc | apply pw_below_drewN | apply below_drew1) | exact HB.out)⟩⟩
  case rest =>
    clear HC3
    try clear c1
    try clear c2
    try clear p2
    try clear c5
    try clear c5b0
    try clear c5b1
    obtain ⟨kq, x11_2, rfl, HA, HJ2, HB⟩ := hcut
    cases kq with
    | zero => exact absurd HA.out (by simp [letterboxref08_kind.j0])
    | succ kj2 =>
      have H := HA.out
      clear HA
      simp only [letterboxref08_kind.j0] at H
      by_cases c6 : x11_2 = true
      · subst c6
        have H1 : (some 1) = some r := by rw [if_pos rfl] at H; exact H
        clear H
        have H := H1
        clear H1
        obtain rfl := Option.some.inj H
        go_wp2
        go_ret
        exact ⟨by first | rfl | (simp [errW_none, errW_some] <;> rfl) | (simp [*, errW_none, errW_some] <;> rfl), by repeat (first | (with_reducible first | exact HB.out | apply below_alloc | apply pw_below_drewN | apply below_drew1) | exact HB.out)⟩
      · replace c6 := Bool.eq_false_iff.mpr c6
        subst c6
        have H1 : (if t141.toList = ([105, 115, 111, 45, 56, 56, 53, 57, 45, 49] : List UInt8) then (letterboxref08_kind.j1 kj2 t141 true) else (letterboxref08_kind.j1 kj2 t141 (t141.toList == ([108, 97, 116, 105, 110, 49] : List UInt8)))) = some r := by rw [if_neg (show ¬ (false = true) by decide)] at H; exact H
        clear H
        have H := H1
        clear H1
        have HC7 := Aside0.mk H
        clear H
        go_upto_region 4 with (fail)
        go_cut [17] (fun v17 wc => ∃ (kq : Nat) (x17_6 : Bool), v17 = .bool x17_6 ∧ Aside0 (letterboxref08_kind.j1 kq t141 x17_6 = some r) ∧ Aside0 (kq ≤ kj2) ∧ Aside0 (Below w.heap.size w wc))
        case first =>
          have H := HC7.out
          clear HC7
          by_cases c8 : t141.toList = ([105, 115, 111, 45, 56, 56, 53, 57, 45, 49] : List UInt8)
          · rw [if_pos c8] at H
            have c8b0 : (t141.toList == ([105, 115, 111, 45, 56, 56, 53, 57, 45, 49] : List UInt8)) = true := beq_iff_eq.mpr c8
            have c8b1 : (t141.toList != ([105, 115, 111, 45, 56, 56, 53, 57, 45, 49] : List UInt8)) = false := bne_eq_false_iff_eq.mpr c8
            clear c8
            (first | rw [c8b0] | (simp only [i64_w, i32_w]; rw [c8b0]) | skip)
            have H' := Aside0.mk H
            clear H
            go_wp2
            go_meet
            case rel => exact ⟨_, (true), (by first | rfl | (simp; done) | (simp [*]; done)), H', ⟨by have := HJ2.out; first | omega | exact Nat.le_refl _⟩, ⟨by repeat (first | (with_reducible first | exact HB.out | apply below_alloc | apply pw_below_drewN | apply below_drew1) | exact HB.out)⟩⟩
          · rw [if_neg c8] at H
            have c8b0 : (t141.toList == ([105, 115, 111, 45, 56, 56, 53, 57, 45, 49] : List UInt8)) = false := beq_eq_false_iff_ne.mpr c8
            have c8b1 : (t141.toList != ([105, 115, 111, 45, 56, 56, 53, 57, 45, 49] : List UInt8)) = true := bne_iff_ne.mpr c8
            (first | rw [c8b0] | (simp only [i64_w, i32_w]; rw [c8b0]) | skip)
            have H' := Aside0.mk H
            clear H
            go_wp2
            go_meet
            case rel => exact ⟨_, ((t141.toList == ([108, 97, 116, 105, 110, 49] : List UInt8))), (by first | rfl | (simp; done) | (simp [*]; done)), H', ⟨by have := HJ2.out; first | omega | exact Nat.le_refl _⟩, ⟨by repeat (first | (with_reducible first | exact HB.out | apply below_alloc | apply pw_below_drewN | apply below_drew1) | exact HB.out)⟩⟩
        case rest =>
          clear HC7
          try clear c1
          try clear c2
          try clear p2
          try clear c5
          try clear c5b0
          try clear c5b1
          try clear c6
          try clear c8
          try clear c8b0
          try clear c8b1
          try clear p2
          obtain ⟨kq, x17_6, rfl, HA, HJ6, HB⟩ := hcut
          cases kq with
          | zero => exact absurd HA.out (by simp [letterboxref08_kind.j1])
          | succ kj6 =>
            have H := HA.out
            clear HA
            simp only [letterboxref08_kind.j1] at H
            by_cases c9 : x17_6 = true
            · subst c9
              have H1 : (some 2) = some r := by rw [if_pos rfl] at H; exact H
              clear H
              have H := H1
              clear H1
              obtain rfl := Option.some.inj H
              go_wp2
              go_ret
              exact ⟨by first | rfl | (simp [errW_none, errW_some] <;> rfl) | (simp [*, errW_none, errW_some] <;> rfl), by repeat (first | (with_reducible first | exact HB.out | apply below_alloc | apply pw_below_drewN | apply below_drew1) | exact HB.out)⟩
            · replace c9 := Bool.eq_false_iff.mpr c9
              subst c9
              have H1 : (if t141.toList = ([117, 116, 102, 45, 56] : List UInt8) then (some 3) else (if t141.toList = ([117, 116, 102, 56] : List UInt8) then (some 3) else (some 0))) = some r := by rw [if_neg (show ¬ (false = true) by decide)] at H; exact H
              clear H
              have H := H1
              clear H1
              by_cases c10 : t141.toList = ([117, 116, 102, 45, 56] : List UInt8)
              · rw [if_pos c10] at H
                have c10b0 : (t141.toList == ([117, 116, 102, 45, 56] : List UInt8)) = true := beq_iff_eq.mpr c10
                have c10b1 : (t141.toList != ([117, 116, 102, 45, 56] : List UInt8)) = false := bne_eq_false_iff_eq.mpr c10
                clear c10
                obtain rfl := Option.some.inj H
                go_wp2
                go_ret
                exact ⟨by first | rfl | (simp [errW_none, errW_some] <;> rfl) | (simp [*, errW_none, errW_some] <;> rfl), by repeat (first | (with_reducible first | exact HB.out | apply below_alloc | apply pw_below_drewN | apply below_drew1) | exact HB.out)⟩
              · rw [if_neg c10] at H
                have c10b0 : (t141.toList == ([117, 116, 102, 45, 56] : List UInt8)) = false := beq_eq_false_iff_ne.mpr c10
                have c10b1 : (t141.toList != ([117, 116, 102, 45, 56] : List UInt8)) = true := bne_iff_ne.mpr c10
                by_cases c11 : t141.toList = ([117, 116, 102, 56] : List UInt8)
                · rw [if_pos c11] at H
                  have c11b0 : (t141.toList == ([117, 116, 102, 56] : List UInt8)) = true := beq_iff_eq.mpr c11
                  have c11b1 : (t141.toList != ([117, 116, 102, 56] : List UInt8)) = false := bne_eq_false_iff_eq.mpr c11
                  clear c11
                  obtain rfl := Option.some.inj H
                  go_wp2
                  go_ret
                  exact ⟨by first | rfl | (simp [errW_none, errW_some] <;> rfl) | (simp [*, errW_none, errW_some] <;> rfl), by repeat (first | (with_reducible first | exact HB.out | apply below_alloc | apply pw_below_drewN | apply below_drew1) | exact HB.out)⟩
                · rw [if_neg c11] at H
                  have c11b0 : (t141.toList == ([117, 116, 102, 56] : List UInt8)) = false := beq_eq_false_iff_ne.mpr c11
                  have c11b1 : (t141.toList != ([117, 116, 102, 56] : List UInt8)) = true := bne_iff_ne.mpr c11
                  obtain rfl := Option.some.inj H
                  go_wp2
                  go_ret
                  exact ⟨by first | rfl | (simp [errW_none, errW_some] <;> rfl) | (simp [*, errW_none, errW_some] <;> rfl), by repeat (first | (with_reducible first | exact HB.out | apply below_alloc | apply pw_below_drewN | apply below_drew1) | exact HB.out)⟩

/-! ### letterboxref08_tail: function 27 -/
def letterboxref08_tail.f (a0 : ByteArray) (a1 : Int) : Option (Bool) := if a1 < (a0.size : Int) then (if 0 ≤ a1 then (if (bt a0 a1) ≥ 128 then (some (decide ((bt a0 a1) < 192))) else (some false)) else (none)) else (some false)
set_option maxHeartbeats 8000000 in
set_option maxRecDepth 100000 in
theorem letterboxref08_tail.calls (a0 : ByteArray) (a1 : Int) (r : Bool) (w : World) (h : letterboxref08_tail.f a0 a1 = some r) :
    Calls Tryd.prog 27 #[.string a0, .int .i64 a1] w fun e w' => e = .returned (.bool r) ∧ Drawn0 w w' := by
  have H : (if a1 < (a0.size : Int) then (if 0 ≤ a1 then (if (bt a0 a1) ≥ 128 then (some (decide ((bt a0 a1) < 192))) else (some false)) else (none)) else (some false)) = some r := h
  clear h
  by_cases c3 : a1 < (a0.size : Int)
  · rw [if_pos c3] at H
    have c3b0 : decide (a1 < (a0.size : Int)) = true := decide_eq_true c3
    clear c3
    by_cases c4 : 0 ≤ a1
    · rw [if_pos c4] at H
      have c4b0 : decide (0 ≤ a1) = true := decide_eq_true c4
      clear c4
      by_cases c6 : (bt a0 a1) ≥ 128
      · rw [if_pos c6] at H
        have c6b0 : decide (128 ≤ (bt a0 a1)) = true := decide_eq_true c6
        clear c6
        obtain rfl := Option.some.inj H
        have p5 : 0 ≤ (a1 : Int) := of_decide_eq_true (by first | (with_reducible assumption) | assumption)
        have q5 : a1 < (a0.size : Int) := of_decide_eq_true (by first | (with_reducible assumption) | assumption)
        have hx5 := bt_at a0 a1
        replace p5 := eq_true p5
        replace q5 := eq_true q5
        have p7 : 0 ≤ (a1 : Int) := of_decide_eq_true (by first | (with_reducible assumption) | assumption)
        have q7 : a1 < (a0.size : Int) := of_decide_eq_true (by first | (with_reducible assumption) | assumption)
        have hx7 := bt_at a0 a1
        replace p7 := eq_true p7
        replace q7 := eq_true q7
        go_enter Tryd.func27, Tryd.ntmps27
        go_wp2
        go_ret
        exact ⟨by first | rfl | (simp; done) | (simp [*]; done), by repeat (first | exact Drawn0.refl _ | apply Drawn0.step)⟩
      · rw [if_neg c6] at H
        have c6b0 : decide (128 ≤ (bt a0 a1)) = false := decide_eq_false c6
        clear c6
        obtain rfl := Option.some.inj H
        have p5 : 0 ≤ (a1 : Int) := of_decide_eq_true (by first | (with_reducible assumption) | assumption)
        have q5 : a1 < (a0.size : Int) := of_decide_eq_true (by first | (with_reducible assumption) | assumption)
        have hx5 := bt_at a0 a1
        replace p5 := eq_true p5
        replace q5 := eq_true q5
        go_enter Tryd.func27, Tryd.ntmps27
        go_wp2
        go_ret
        exact ⟨by first | rfl | (simp; done) | (simp [*]; done), by repeat (first | exact Drawn0.refl _ | apply Drawn0.step)⟩
    · rw [if_neg c4] at H
      exact absurd H (by simp)
  · rw [if_neg c3] at H
    have c3b0 : decide (a1 < (a0.size : Int)) = false := decide_eq_false c3
    clear c3
    obtain rfl := Option.some.inj H
    go_enter Tryd.func27, Tryd.ntmps27
    go_wp2
    go_ret
    exact ⟨by first | rfl | (simp; done) | (simp [*]; done), by repeat (first | exact Drawn0.refl _ | apply Drawn0.step)⟩

end Go.Proofs.YtoihcdahloddkaaDoor.P
