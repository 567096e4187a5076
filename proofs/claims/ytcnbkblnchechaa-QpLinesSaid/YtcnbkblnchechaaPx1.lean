-- Written by a program of this session (wip/tools/mk.sh) for this claim: it runs the kit's print with contracts of our own. Lean checks it.
import Derived.Test.YtcnbkblnchechaaPx0
namespace Go.Proofs.Ytcnbkblnchechaa.P
open Go.RowKit Go.Proofs.YtcnbkblnchechaaW.PrintWords Go.Proofs.YtcnbkblnchechaaW.PrintLast Go.Proofs.YtcnbkblnchechaaW.PrintMore
attribute [local go_sem] max2_int min2_int max_two min_two max_three min_three max_four min_four   -- for this text's walks alone
set_option linter.unusedVariables false
set_option linter.unusedSimpArgs false

/-! ### qp_line: function 12 -/
mutual
def qp_line.j1 : Nat → List Int → Int → Option (List Int × List Int × List Int)
  | 0, _, _ => none
  | k + 1, x0, x5 => if x5 < (x0.length : Int) then (if x5 > 0 then (if 0 ≤ (wrap64 (x5 - 1)) then (if (wrap64 (x5 - 1)) < (x0.length : Int) then (qp_line.j2 k x0 x5 (mn (wrap64 (x5 + 1)) (x0.length : Int)) ((rd x0 (wrap64 (x5 - 1))) == 13)) else (none)) else (none)) else (qp_line.j2 k x0 x5 (mn (wrap64 (x5 + 1)) (x0.length : Int)) false)) else (qp_line.j2 k x0 x5 (mn (wrap64 (x5 + 1)) (x0.length : Int)) false)
def qp_line.j2 : Nat → List Int → Int → Int → Bool → Option (List Int × List Int × List Int)
  | 0, _, _, _, _ => none
  | k + 1, x0, x5, x6, x42 => if x42 = true then (qp_line.j3 k x0 (wrap64 (x5 - 1)) x6) else (qp_line.j3 k x0 x5 x6)
def qp_line.j3 : Nat → List Int → Int → Int → Option (List Int × List Int × List Int)
  | 0, _, _, _ => none
  | k + 1, x0, x5, x6 => if 0 ≤ x5 then (if x5 ≤ (x0.length : Int) then (if x5 ≤ x6 then (if x6 ≤ (x0.length : Int) then (qp_line.l1 k x0 x6 (x0.take (x5 : Int).toNat) ((x0.take (x6 : Int).toNat).drop (x5 : Int).toNat)) else (none)) else (none)) else (none)) else (none)
def qp_line.l1 : Nat → List Int → Int → List Int → List Int → Option (List Int × List Int × List Int)
  | 0, _, _, _, _ => none
  | k + 1, x0, x6, x7, x8 => if (x7.length : Int) > 0 then (if 0 ≤ (wrap64 ((x7.length : Int) - 1)) then (if (wrap64 ((x7.length : Int) - 1)) < (x7.length : Int) then (if (rd x7 (wrap64 ((x7.length : Int) - 1))) = 32 then (if (wrap64 ((x7.length : Int) - 1)) ≤ (x7.length : Int) then (qp_line.l1 k x0 x6 (x7.take ((wrap64 ((x7.length : Int) - 1)) : Int).toNat) x8) else (none)) else (if (rd x7 (wrap64 ((x7.length : Int) - 1))) = 9 then (if (wrap64 ((x7.length : Int) - 1)) ≤ (x7.length : Int) then (qp_line.l1 k x0 x6 (x7.take ((wrap64 ((x7.length : Int) - 1)) : Int).toNat) x8) else (none)) else (if 0 ≤ x6 then (if x6 ≤ (x0.length : Int) then (some (x7, x8, (x0.drop (x6 : Int).toNat))) else (none)) else (none)))) else (none)) else (none)) else (if 0 ≤ x6 then (if x6 ≤ (x0.length : Int) then (some (x7, x8, (x0.drop (x6 : Int).toNat))) else (none)) else (none))
def qp_line.l0 : Nat → List Int → Int → Option (List Int × List Int × List Int)
  | 0, _, _ => none
  | k + 1, x0, x5 => if x5 < (x0.length : Int) then (if 0 ≤ x5 then (if (rd x0 x5) = 10 then (qp_line.j1 k x0 x5) else (qp_line.l0 k x0 (wrap64 (x5 + 1)))) else (none)) else (qp_line.j1 k x0 x5)
end
def qp_line.f (k : Nat) (l0 : List Int) : Option (List Int × List Int × List Int) := qp_line.l0 k l0 0
theorem qp_line.mono_l : ∀ k, (∀ y0 y1, LeO (qp_line.j1 k y0 y1) (qp_line.j1 (k + 1) y0 y1)) ∧ (∀ y0 y1 y2 y3, LeO (qp_line.j2 k y0 y1 y2 y3) (qp_line.j2 (k + 1) y0 y1 y2 y3)) ∧ (∀ y0 y1 y2, LeO (qp_line.j3 k y0 y1 y2) (qp_line.j3 (k + 1) y0 y1 y2)) ∧ (∀ y0 y1 y2 y3, LeO (qp_line.l1 k y0 y1 y2 y3) (qp_line.l1 (k + 1) y0 y1 y2 y3)) ∧ (∀ y0 y1, LeO (qp_line.l0 k y0 y1) (qp_line.l0 (k + 1) y0 y1))
  | 0 => ⟨fun _ _ r h => by simp [qp_line.j1] at h, fun _ _ _ _ r h => by simp [qp_line.j2] at h, fun _ _ _ r h => by simp [qp_line.j3] at h, fun _ _ _ _ r h => by simp [qp_line.l1] at h, fun _ _ r h => by simp [qp_line.l0] at h⟩
  | k + 1 => by
    obtain ⟨ih0, ih1, ih2, ih3, ih4⟩ := qp_line.mono_l k
    refine ⟨?_, ?_, ?_, ?_, ?_⟩
    · intro y0 y1
      unfold qp_line.j1
      repeat' first
      | (with_reducible exact ih0 _ _)
      | (with_reducible exact ih1 _ _ _ _)
      | (with_reducible exact ih2 _ _ _)
      | (with_reducible exact ih3 _ _ _ _)
      | (with_reducible exact ih4 _ _)
      | (with_reducible exact LeO.refl _)
      | (with_reducible exact LeO.none _)
      | (with_reducible refine LeO.ite ?_ ?_)
      | (with_reducible refine LeO.bind ?_ (fun _ => ?_))
      | exact ih0 _ _
      | exact ih1 _ _ _ _
      | exact ih2 _ _ _
      | exact ih3 _ _ _ _
      | exact ih4 _ _
      | exact LeO.none _
      | refine LeO.ite ?_ ?_
      | refine LeO.bind ?_ (fun _ => ?_)
    · intro y0 y1 y2 y3
      unfold qp_line.j2
      repeat' first
      | (with_reducible exact ih0 _ _)
      | (with_reducible exact ih1 _ _ _ _)
      | (with_reducible exact ih2 _ _ _)
      | (with_reducible exact ih3 _ _ _ _)
      | (with_reducible exact ih4 _ _)
      | (with_reducible exact LeO.refl _)
      | (with_reducible exact LeO.none _)
      | (with_reducible refine LeO.ite ?_ ?_)
      | (with_reducible refine LeO.bind ?_ (fun _ => ?_))
      | exact ih0 _ _
      | exact ih1 _ _ _ _
      | exact ih2 _ _ _
      | exact ih3 _ _ _ _
      | exact ih4 _ _
      | exact LeO.none _
      | refine LeO.ite ?_ ?_
      | refine LeO.bind ?_ (fun _ => ?_)
    · intro y0 y1 y2
      unfold qp_line.j3
      repeat' first
      | (with_reducible exact ih0 _ _)
      | (with_reducible exact ih1 _ _ _ _)
      | (with_reducible exact ih2 _ _ _)
      | (with_reducible exact ih3 _ _ _ _)
      | (with_reducible exact ih4 _ _)
      | (with_reducible exact LeO.refl _)
      | (with_reducible exact LeO.none _)
      | (with_reducible refine LeO.ite ?_ ?_)
      | (with_reducible refine LeO.bind ?_ (fun _ => ?_))
      | exact ih0 _ _
      | exact ih1 _ _ _ _
      | exact ih2 _ _ _
      | exact ih3 _ _ _ _
      | exact ih4 _ _
      | exact LeO.none _
      | refine LeO.ite ?_ ?_
      | refine LeO.bind ?_ (fun _ => ?_)
    · intro y0 y1 y2 y3
      unfold qp_line.l1
      repeat' first
      | (with_reducible exact ih0 _ _)
      | (with_reducible exact ih1 _ _ _ _)
      | (with_reducible exact ih2 _ _ _)
      | (with_reducible exact ih3 _ _ _ _)
      | (with_reducible exact ih4 _ _)
      | (with_reducible exact LeO.refl _)
      | (with_reducible exact LeO.none _)
      | (with_reducible refine LeO.ite ?_ ?_)
      | (with_reducible refine LeO.bind ?_ (fun _ => ?_))
      | exact ih0 _ _
      | exact ih1 _ _ _ _
      | exact ih2 _ _ _
      | exact ih3 _ _ _ _
      | exact ih4 _ _
      | exact LeO.none _
      | refine LeO.ite ?_ ?_
      | refine LeO.bind ?_ (fun _ => ?_)
    · intro y0 y1
      unfold qp_line.l0
      repeat' first
      | (with_reducible exact ih0 _ _)
      | (with_reducible exact ih1 _ _ _ _)
      | (with_reducible exact ih2 _ _ _)
      | (with_reducible exact ih3 _ _ _ _)
      | (with_reducible exact ih4 _ _)
      | (with_reducible exact LeO.refl _)
      | (with_reducible exact LeO.none _)
      | (with_reducible refine LeO.ite ?_ ?_)
      | (with_reducible refine LeO.bind ?_ (fun _ => ?_))
      | exact ih0 _ _
      | exact ih1 _ _ _ _
      | exact ih2 _ _ _
      | exact ih3 _ _ _ _
      | exact ih4 _ _
      | exact LeO.none _
      | refine LeO.ite ?_ ?_
      | refine LeO.bind ?_ (fun _ => ?_)
theorem qp_line.mono : ∀ a0 k, LeO (qp_line.f k a0) (qp_line.f (k + 1) a0) := by
  intro a0 k
  obtain ⟨ih0, ih1, ih2, ih3, ih4⟩ := qp_line.mono_l k
  unfold qp_line.f
  repeat' first
      | (with_reducible exact ih0 _ _)
      | (with_reducible exact ih1 _ _ _ _)
      | (with_reducible exact ih2 _ _ _)
      | (with_reducible exact ih3 _ _ _ _)
      | (with_reducible exact ih4 _ _)
      | (with_reducible exact LeO.refl _)
      | (with_reducible exact LeO.none _)
      | (with_reducible refine LeO.ite ?_ ?_)
      | (with_reducible refine LeO.bind ?_ (fun _ => ?_))
      | exact ih0 _ _
      | exact ih1 _ _ _ _
      | exact ih2 _ _ _
      | exact ih3 _ _ _ _
      | exact ih4 _ _
      | exact LeO.none _
      | refine LeO.ite ?_ ?_
      | refine LeO.bind ?_ (fun _ => ?_)
set_option maxHeartbeats 8000000 in
set_option maxRecDepth 100000 in
theorem qp_line.calls (k : Nat) (P0_ : Nat → Prop) (A0 : Option Addr) (c0 : Nat) (l0 : List Int) (r1 : List Int) (r2 : List Int) (r3 : List Int) (w : World) (hs0 : Kd.V (Kd.int .u8) 5 w w.heap.size (fun k_ => P0_ k_) (.slice A0 l0.length c0) l0) (h : qp_line.f k l0 = some (r1, r2, r3)) :
    Calls Try.prog 12 #[.slice A0 l0.length c0] w fun e w' => ∃ v0_ v1_ v2_ : Value, e = .returned (.tuple #[v0_, v1_, v2_]) ∧ Kd.V (Kd.int .u8) 5 w' w.heap.size (fun k_ => (P0_ k_ ∨ w.heap.size ≤ k_)) v0_ r1 ∧ Kd.V (Kd.int .u8) 5 w' w.heap.size (fun k_ => (P0_ k_ ∨ w.heap.size ≤ k_)) v1_ r2 ∧ Kd.V (Kd.int .u8) 5 w' w.heap.size (fun k_ => (P0_ k_ ∨ w.heap.size ≤ k_)) v2_ r3 ∧ Below w.heap.size w w' := by
  have hw8_ : ∀ x_ : Int, IntKind.u8.wrap x_ = x_ % 256 := IntKind.wrap_u8
  have HO0 := Aside0.mk (show Kd.V (Kd.int .u8) 5 w w.heap.size (fun k_ => (P0_ k_ ∨ w.heap.size ≤ k_)) (.slice A0 l0.length c0) l0 from Kd.V_mono hs0 (fun k_ hk => .inl hk))
  have HB := Aside0.mk (Below.refl w.heap.size w)
  have H : (qp_line.l0 k l0 0) = some (r1, r2, r3) := h
  clear h
  have HC2 := Aside0.mk H
  clear H
  go_enter Try.func12, Try.ntmps12
  (try go_step3)
  go_upto_block 0 with (go_step3)
  repeat (go_quiet (fail); go_upto_block 0 with (go_step3))
  go_cut [5] (fun v5 wc => ∃ (kq : Nat) (x5_1 : Int), v5 = .int .i64 x5_1 ∧ Aside0 (qp_line.j1 kq l0 x5_1 = some (r1, r2, r3)) ∧ Aside0 (kq ≤ k) ∧ Aside0 (Kd.V (Kd.int .u8) 5 wc w.heap.size (fun k_ => (P0_ k_ ∨ w.heap.size ≤ k_)) (.slice A0 l0.length c0) l0) ∧ Aside0 (Below w.heap.size w wc))
  case first =>
    have H := HC2.out
    clear HC2
    have H' := Aside0.mk H
    clear H
    go_wp2_with go_step3
    repeat (go_quiet (fail); try go_wp2_with go_step3)
    go_loopg [5] k (fun kq v5 w' => ∃ (x5_1 : Int), v5 = .int .i64 x5_1 ∧ Aside0 (qp_line.l0 kq l0 x5_1 = some (r1, r2, r3)) ∧ Aside0 (kq ≤ k) ∧ Aside0 (Kd.V (Kd.int .u8) 5 w' w.heap.size (fun k_ => (P0_ k_ ∨ w.heap.size ≤ k_)) (.slice A0 l0.length c0) l0) ∧ Aside0 (Below w.heap.size w w'))
    case atStart => exact ⟨(0), (by first | rfl | (simp; done) | (simp [*]; done)), H', ⟨Nat.le_refl _⟩, ⟨by (with_reducible repeat (first | apply Kd.V_alloc | apply Kd.V_drewN | apply Kd.V_drew)); exact HO0.out⟩, ⟨by repeat (first | (with_reducible first | exact HB.out | apply below_alloc | apply pw_below_drewN | apply below_drew1) | exact HB.out)⟩⟩
    case round =>
      clear H'
      try clear c1
      try clear p2
      obtain ⟨x5_1, rfl, HA, HK1, HO_0, HB⟩ := hrel
      cases gk with
      | zero => exact absurd HA.out (by simp [qp_line.l0])
      | succ k1 =>
        have H := HA.out
        clear HA
        simp only [qp_line.l0] at H
        by_cases c3 : x5_1 < (l0.length : Int)
        · rw [if_pos c3] at H
          have c3b0 : decide (x5_1 < (l0.length : Int)) = true := decide_eq_true c3
          clear c3
          (first | rw [c3b0] | (simp only [i64_w, i32_w]; rw [c3b0]) | skip)
          by_cases c4 : 0 ≤ x5_1
          · rw [if_pos c4] at H
            have c4b0 : decide (0 ≤ x5_1) = true := decide_eq_true c4
            clear c4
            by_cases c5 : (rd l0 x5_1) = 10
            · rw [if_pos c5] at H
              have c5b0 : ((rd l0 x5_1) == 10) = true := beq_iff_eq.mpr c5
              have c5b1 : ((rd l0 x5_1) != 10) = false := bne_eq_false_iff_eq.mpr c5
              clear c5
              have H' := Aside0.mk H
              clear H
              have p101 : 0 ≤ (x5_1 : Int) := of_decide_eq_true (by first | (with_reducible assumption) | assumption)
              have q101 : x5_1 < (l0.length : Int) := of_decide_eq_true (by first | (with_reducible assumption) | assumption)
              obtain ⟨ad101, e101, hx101_0⟩ := Kd.at_int (Kd.V_reads' HO_0.out).2.2 x5_1 p101 q101
              cases e101
              replace p101 := eq_true p101
              replace q101 := eq_true q101
              go_wp2_with go_step3
              repeat (go_quiet (fail); try go_wp2_with go_step3)
              go_meet
              case rel => exact ⟨_, (x5_1), (by first | rfl | (simp; done) | (simp [*]; done)), H', ⟨by have := HK1.out; first | omega | exact Nat.le_refl _⟩, ⟨by (with_reducible repeat (first | apply Kd.V_alloc | apply Kd.V_drewN | apply Kd.V_drew)); exact HO_0.out⟩, ⟨by repeat (first | (with_reducible first | exact HB.out | apply below_alloc | apply pw_below_drewN | apply below_drew1) | exact HB.out)⟩⟩
            · rw [if_neg c5] at H
              have c5b0 : ((rd l0 x5_1) == 10) = false := beq_eq_false_iff_ne.mpr c5
              have c5b1 : ((rd l0 x5_1) != 10) = true := bne_iff_ne.mpr c5
              have H' := Aside0.mk H
              clear H
              have p101 : 0 ≤ (x5_1 : Int) := of_decide_eq_true (by first | (with_reducible assumption) | assumption)
              have q101 : x5_1 < (l0.length : Int) := of_decide_eq_true (by first | (with_reducible assumption) | assumption)
              obtain ⟨ad101, e101, hx101_0⟩ := Kd.at_int (Kd.V_reads' HO_0.out).2.2 x5_1 p101 q101
              cases e101
              replace p101 := eq_true p101
              replace q101 := eq_true q101
              go_wp2_with go_step3
              repeat (go_quiet (fail); try go_wp2_with go_step3)
              go_roundg k1
              case measure => have := HK1.out; omega
              case rel => exact ⟨(wrap64 (x5_1 + 1)), (by first | rfl | (simp; done) | (simp [*]; done)), H', ⟨by have := HK1.out; omega⟩, ⟨by (with_reducible repeat (first | apply Kd.V_alloc | apply Kd.V_drewN | apply Kd.V_drew)); exact HO_0.out⟩, ⟨by repeat (first | (with_reducible first | exact HB.out | apply below_alloc | apply pw_below_drewN | apply below_drew1) | exact HB.out)⟩⟩
          · rw [if_neg c4] at H
            exact absurd H (by simp)
        · rw [if_neg c3] at H
          have c3b0 : decide (x5_1 < (l0.length : Int)) = false := decide_eq_false c3
          clear c3
          (first | rw [c3b0] | (simp only [i64_w, i32_w]; rw [c3b0]) | skip)
          have H' := Aside0.mk H
          clear H
          go_wp2_with go_step3
          repeat (go_quiet (fail); try go_wp2_with go_step3)
          go_meet
          case rel => exact ⟨_, (x5_1), (by first | rfl | (simp; done) | (simp [*]; done)), H', ⟨by have := HK1.out; first | omega | exact Nat.le_refl _⟩, ⟨by (with_reducible repeat (first | apply Kd.V_alloc | apply Kd.V_drewN | apply Kd.V_drew)); exact HO_0.out⟩, ⟨by repeat (first | (with_reducible first | exact HB.out | apply below_alloc | apply pw_below_drewN | apply below_drew1) | exact HB.out)⟩⟩
  case rest =>
    clear HC2
    try clear c1
    try clear p1
    try clear q1
    try clear hx1
    try clear p2
    try clear c3
    try clear c3b0
    try clear c4
    try clear c4b0
    try clear c5
    try clear c5b0
    try clear c5b1
    try clear hx101_0
    try clear p101
    try clear p2
    try clear q101
    obtain ⟨kq, x5_1, rfl, HA, HJ1, HO_0, HB⟩ := hcut
    cases kq with
    | zero => exact absurd HA.out (by simp [qp_line.j1])
    | succ kj1 =>
      have H := HA.out
      clear HA
      simp only [qp_line.j1] at H
      obtain ⟨ji6, hji6⟩ : ∃ j_ : Int, (mn (wrap64 (x5_1 + 1)) (l0.length : Int)) = j_ := ⟨_, rfl⟩
      replace H : (if x5_1 < (l0.length : Int) then (if x5_1 > 0 then (if 0 ≤ (wrap64 (x5_1 - 1)) then (if (wrap64 (x5_1 - 1)) < (l0.length : Int) then (qp_line.j2 kj1 l0 x5_1 ji6 ((rd l0 (wrap64 (x5_1 - 1))) == 13)) else (none)) else (none)) else (qp_line.j2 kj1 l0 x5_1 ji6 false)) else (qp_line.j2 kj1 l0 x5_1 ji6 false)) = some (r1, r2, r3) := by first | (rw [hji6] at H; exact H) | (simp only [hji6] at H ⊢; exact H)
      have hji6_ : (if (l0.length : Int) < (wrap64 (x5_1 + 1)) then (l0.length : Int) else (wrap64 (x5_1 + 1))) = ji6 := hji6
      have HC7 := Aside0.mk H
      clear H
      go_upto_region 5 with (go_step3)
      repeat (go_quiet (fail); go_upto_region 5 with (go_step3))
      go_cut [42] (fun v42 wc => ∃ (kq : Nat) (x42_6 : Bool), v42 = .bool x42_6 ∧ Aside0 (qp_line.j2 kq l0 x5_1 ji6 x42_6 = some (r1, r2, r3)) ∧ Aside0 (kq ≤ kj1) ∧ Aside0 (Kd.V (Kd.int .u8) 5 wc w.heap.size (fun k_ => (P0_ k_ ∨ w.heap.size ≤ k_)) (.slice A0 l0.length c0) l0) ∧ Aside0 (Below w.heap.size w wc))
      case first =>
        have H := HC7.out
        clear HC7
        by_cases c8 : x5_1 < (l0.length : Int)
        · rw [if_pos c8] at H
          have c8b0 : decide (x5_1 < (l0.length : Int)) = true := decide_eq_true c8
          clear c8
          (first | rw [c8b0] | (simp only [i64_w, i32_w]; rw [c8b0]) | skip)
          by_cases c9 : x5_1 > 0
          · rw [if_pos c9] at H
            have c9b0 : decide (0 < x5_1) = true := decide_eq_true c9
            clear c9
            obtain ⟨ji10, hji10⟩ : ∃ j_ : Int, (wrap64 (x5_1 - 1)) = j_ := ⟨_, rfl⟩
            replace H : (if 0 ≤ (ji10) then (if (ji10) < (l0.length : Int) then (qp_line.j2 kj1 l0 x5_1 ji6 ((rd l0 (ji10)) == 13)) else (none)) else (none)) = some (r1, r2, r3) := by first | (rw [hji10] at H; exact H) | (simp only [hji10] at H ⊢; exact H)
            have hji10w : (IntKind.i64.wrap (x5_1 - 1)) = ji10 := (i64_w _).trans hji10
            by_cases c11 : 0 ≤ (ji10)
            · rw [if_pos c11] at H
              have c11b0 : decide (0 ≤ (ji10)) = true := decide_eq_true c11
              clear c11
              by_cases c12 : (ji10) < (l0.length : Int)
              · rw [if_pos c12] at H
                have c12b0 : decide ((ji10) < (l0.length : Int)) = true := decide_eq_true c12
                clear c12
                have H' := Aside0.mk H
                clear H
                have p102 : 0 ≤ ((ji10) : Int) := of_decide_eq_true (by first | (with_reducible assumption) | assumption)
                have q102 : (ji10) < (l0.length : Int) := of_decide_eq_true (by first | (with_reducible assumption) | assumption)
                obtain ⟨ad102, e102, hx102_0⟩ := Kd.at_int (Kd.V_reads' HO_0.out).2.2 (ji10) p102 q102
                cases e102
                replace p102 := eq_true p102
                replace q102 := eq_true q102
                go_wp2_with go_step3
                repeat (go_quiet (fail); try go_wp2_with go_step3)
                go_meet
                case rel => exact ⟨_, (((rd l0 (ji10)) == 13)), (by first | rfl | (simp; done) | (simp only [← hji10] <;> (first | rfl | simp)) | (simp [*]; done)), (by first | exact H' | (rw [hji10]; exact H') | (rw [hji6]; exact H')), ⟨by have := HJ1.out; first | omega | exact Nat.le_refl _⟩, ⟨by (with_reducible repeat (first | apply Kd.V_alloc | apply Kd.V_drewN | apply Kd.V_drew)); exact HO_0.out⟩, ⟨by repeat (first | (with_reducible first | exact HB.out | apply below_alloc | apply pw_below_drewN | apply below_drew1) | exact HB.out)⟩⟩
              · rw [if_neg c12] at H
                exact absurd H (by simp)
            · rw [if_neg c11] at H
              exact absurd H (by simp)
          · rw [if_neg c9] at H
            have c9b0 : decide (0 < x5_1) = false := decide_eq_false c9
            clear c9
            have H' := Aside0.mk H
            clear H
            go_wp2_with go_step3
            repeat (go_quiet (fail); try go_wp2_with go_step3)
            go_meet
            case rel => exact ⟨_, (false), (by first | rfl | (simp; done) | (simp [*]; done)), (by first | exact H' | (rw [hji10]; exact H') | (rw [hji6]; exact H')), ⟨by have := HJ1.out; first | omega | exact Nat.le_refl _⟩, ⟨by (with_reducible repeat (first | apply Kd.V_alloc | apply Kd.V_drewN | apply Kd.V_drew)); exact HO_0.out⟩, ⟨by repeat (first | (with_reducible first | exact HB.out | apply below_alloc | apply pw_below_drewN | apply below_drew1) | exact HB.out)⟩⟩
        · rw [if_neg c8] at H
          have c8b0 : decide (x5_1 < (l0.length : Int)) = false := decide_eq_false c8
          clear c8
          (first | rw [c8b0] | (simp only [i64_w, i32_w]; rw [c8b0]) | skip)
          have H' := Aside0.mk H
          clear H
          go_wp2_with go_step3
          repeat (go_quiet (fail); try go_wp2_with go_step3)
          go_meet
          case rel => exact ⟨_, (false), (by first | rfl | (simp; done) | (simp [*]; done)), (by first | exact H' | (rw [hji10]; exact H') | (rw [hji6]; exact H')), ⟨by have := HJ1.out; first | omega | exact Nat.le_refl _⟩, ⟨by (with_reducible repeat (first | apply Kd.V_alloc | apply Kd.V_drewN | apply Kd.V_drew)); exact HO_0.out⟩, ⟨by repeat (first | (with_reducible first | exact HB.out | apply below_alloc | apply pw_below_drewN | apply below_drew1) | exact HB.out)⟩⟩
      case rest =>
        clear HC7
        try clear c1
        try clear p1
        try clear q1
        try clear hx1
        try clear p2
        try clear c3
        try clear c3b0
        try clear c4
        try clear c4b0
        try clear c5
        try clear c5b0
        try clear c5b1
        try clear p6
        try clear c8
        try clear c8b0
        try clear c9
        try clear c9b0
        try clear p10
        try clear q10
        try clear hx10
        try clear c11
        try clear c11b0
        try clear c12
        try clear c12b0
        try clear hx101_0
        try clear hx102_0
        try clear p1
        try clear p101
        try clear p102
        try clear p2
        try clear q1
        try clear q101
        try clear q102
        obtain ⟨kq, x42_6, rfl, HA, HJ6, HO_0, HB⟩ := hcut
        cases kq with
        | zero => exact absurd HA.out (by simp [qp_line.j2])
        | succ kj6 =>
          have H := HA.out
          clear HA
          simp only [qp_line.j2] at H
          have HC13 := Aside0.mk H
          clear H
          go_upto_if 42 with (go_step3)
          repeat (go_quiet (fail); go_upto_if 42 with (go_step3))
          go_cut [5] (fun v5 wc => ∃ (kq : Nat) (x5_12 : Int), v5 = .int .i64 x5_12 ∧ Aside0 (qp_line.j3 kq l0 x5_12 ji6 = some (r1, r2, r3)) ∧ Aside0 (kq ≤ kj6) ∧ Aside0 (Kd.V (Kd.int .u8) 5 wc w.heap.size (fun k_ => (P0_ k_ ∨ w.heap.size ≤ k_)) (.slice A0 l0.length c0) l0) ∧ Aside0 (Below w.heap.size w wc))
          case first =>
            have H := HC13.out
            clear HC13
            by_cases c14 : x42_6 = true
            · subst c14
              have H1 : (qp_line.j3 kj6 l0 (wrap64 (x5_1 - 1)) ji6) = some (r1, r2, r3) := by rw [if_pos rfl] at H; exact H
              clear H
              have H := H1
              clear H1
              have H' := Aside0.mk H
              clear H
              go_wp2_with go_step3
              repeat (go_quiet (fail); try go_wp2_with go_step3)
              go_meet
              case rel => exact ⟨_, (wrap64 (x5_1 - 1)), (by first | rfl | (simp; done) | (simp [*]; done)), (by first | exact H' | (rw [hji10]; exact H') | (rw [hji6]; exact H')), ⟨by have := HJ1.out; have := HJ6.out; first | omega | exact Nat.le_refl _⟩, ⟨by (with_reducible repeat (first | apply Kd.V_alloc | apply Kd.V_drewN | apply Kd.V_drew)); exact HO_0.out⟩, ⟨by repeat (first | (with_reducible first | exact HB.out | apply below_alloc | apply pw_below_drewN | apply below_drew1) | exact HB.out)⟩⟩
            · replace c14 := Bool.eq_false_iff.mpr c14
              subst c14
              have H1 : (qp_line.j3 kj6 l0 x5_1 ji6) = some (r1, r2, r3) := by rw [if_neg (show ¬ (false = true) by decide)] at H; exact H
              clear H
              have H := H1
              clear H1
              have H' := Aside0.mk H
              clear H
              go_wp2_with go_step3
              repeat (go_quiet (fail); try go_wp2_with go_step3)
              go_meet
              case rel => exact ⟨_, (x5_1), (by first | rfl | (simp; done) | (simp [*]; done)), (by first | exact H' | (rw [hji10]; exact H') | (rw [hji6]; exact H')), ⟨by have := HJ1.out; have := HJ6.out; first | omega | exact Nat.le_refl _⟩, ⟨by (with_reducible repeat (first | apply Kd.V_alloc | apply Kd.V_drewN | apply Kd.V_drew)); exact HO_0.out⟩, ⟨by repeat (first | (with_reducible first | exact HB.out | apply below_alloc | apply pw_below_drewN | apply below_drew1) | exact HB.out)⟩⟩
          case rest =>
            clear HC13
            try clear c1
            try clear p1
            try clear q1
            try clear hx1
            try clear p2
            try clear c3
            try clear c3b0
            try clear c4
            try clear c4b0
            try clear c5
            try clear c5b0
            try clear c5b1
            try clear p6
            try clear c8
            try clear c8b0
            try clear c9
            try clear c9b0
            try clear p10
            try clear q10
            try clear hx10
            try clear c11
            try clear c11b0
            try clear c12
            try clear c12b0
            try clear c14
            try clear hx101_0
            try clear hx102_0
            try clear p1
            try clear p10
            try clear p101
            try clear p102
            try clear p2
            try clear p6
            try clear q1
            try clear q10
            try clear q101
            try clear q102
            obtain ⟨kq, x5_12, rfl, HA, HJ12, HO_0, HB⟩ := hcut
            cases kq with
            | zero => exact absurd HA.out (by simp [qp_line.j3])
            | succ kj12 =>
              have H := HA.out
              clear HA
              simp only [qp_line.j3] at H
              by_cases c15 : 0 ≤ x5_12
              · rw [if_pos c15] at H
                have c15b0 := eq_true c15
                have c15b1 : decide (0 ≤ x5_12) = true := decide_eq_true c15
                clear c15
                by_cases c16 : x5_12 ≤ (l0.length : Int)
                · rw [if_pos c16] at H
                  have c16b0 := eq_true c16
                  have c16b1 : decide (x5_12 ≤ (l0.length : Int)) = true := decide_eq_true c16
                  clear c16
                  obtain ⟨y103, hy103⟩ : ∃ y_ : List Int, y_ = (l0.take (x5_12 : Int).toNat) := ⟨_, rfl⟩
                  replace H : (if x5_12 ≤ ji6 then (if ji6 ≤ (l0.length : Int) then (qp_line.l1 kj12 l0 ji6 y103 ((l0.take (ji6 : Int).toNat).drop (x5_12 : Int).toNat)) else (none)) else (none)) = some (r1, r2, r3) := by first | (rw [hy103]; with_reducible exact H) | (have H2_ := (Option.bind_some _ _).symm.trans H; rw [hy103]; with_reducible exact H2_) | (have H2_ := (Option.bind_some _ _).symm.trans H; with_reducible exact H2_) | with_reducible exact H | (rw [hy103]; exact H) | exact H
                  have Ny103 := Aside0.mk hy103
                  clear hy103
                  have c17b0 := eq_true (of_decide_eq_true (by first | (with_reducible assumption) | assumption) : 0 ≤ x5_12)
                  by_cases c18 : x5_12 ≤ ji6
                  · rw [if_pos c18] at H
                    have c18b0 := eq_true c18
                    have c18b1 : decide (x5_12 ≤ ji6) = true := decide_eq_true c18
                    clear c18
                    by_cases c19 : ji6 ≤ (l0.length : Int)
                    · rw [if_pos c19] at H
                      have c19b0 := eq_true c19
                      have c19b1 : decide (ji6 ≤ (l0.length : Int)) = true := decide_eq_true c19
                      clear c19
                      obtain ⟨y108, hy108⟩ : ∃ y_ : List Int, y_ = ((l0.take (ji6 : Int).toNat).drop (x5_12 : Int).toNat) := ⟨_, rfl⟩
                      replace H : (qp_line.l1 kj12 l0 ji6 y103 y108) = some (r1, r2, r3) := by first | (rw [hy108]; with_reducible exact H) | (have H2_ := (Option.bind_some _ _).symm.trans H; rw [hy108]; with_reducible exact H2_) | (have H2_ := (Option.bind_some _ _).symm.trans H; with_reducible exact H2_) | with_reducible exact H | (rw [hy108]; exact H) | exact H
                      have Ny108 := Aside0.mk hy108
                      clear hy108
                      have H' := Aside0.mk H
                      clear H
                      have q20 : (x5_12 : Int) ≤ ((l0.length : Int) : Int) := of_decide_eq_true (by first | (with_reducible assumption) | assumption)
                      obtain ⟨i020, hi020, _, hsz20, _⟩ := info_parts info5
                      have hroom20 : l0.length ≤ c0 := (Kd.V_reads' HO_0.out).2.1
                      have hC20 : Kd.F (Kd.int .u8) _ _ A0 l0.length l0 := (Kd.V_at (base := w.heap.size) HO_0.out).2.2
                      have hcut20 := cut_to (P := Try.prog) 22 5 .i64 Try.underlying22 hi020 A0 l0.length c0 x5_12 (of_decide_eq_true (by first | (with_reducible assumption) | assumption)) q20 hroom20
                      have hr20 := Kd.F_take (m := (x5_12 : Int).toNat) hC20 (by omega)
                      have hy20 : y103.length = (x5_12 : Int).toNat := (by rw [Ny103.out, List.length_take]; omega)
                      rw [← Ny103.out] at hr20
                      rw [← hy20] at hcut20
                      have HO107 := Aside0.mk (show Kd.V (Kd.int .u8) 5 _ w.heap.size _ (.slice A0 y103.length c0) y103 from Kd.V_mk (by omega) hr20)
                      have HC107 := Aside0.mk (show y103.length ≤ c0 from by omega)
                      clear hr20 hC20 hroom20 hi020 hsz20
                      have KY20 := Aside0.mk hy20
                      clear hy20
                      replace q20 := eq_true q20
                      have q21 : (ji6 : Int) ≤ ((l0.length : Int) : Int) := of_decide_eq_true (by first | (with_reducible assumption) | assumption)
                      obtain ⟨i021, hi021, _, hsz21, _⟩ := info_parts info5
                      have hroom21 : l0.length ≤ c0 := (Kd.V_reads' HO_0.out).2.1
                      have hC21 : Kd.F (Kd.int .u8) _ _ A0 l0.length l0 := (Kd.V_at (base := w.heap.size) HO_0.out).2.2
                      have ql21 : (x5_12 : Int) ≤ (ji6 : Int) := of_decide_eq_true (by first | (with_reducible assumption) | assumption)
                      have q021 : (0 : Int) ≤ (x5_12 : Int) := of_decide_eq_true (by first | (with_reducible assumption) | assumption)
                      have hcut21 := cut_mid (P := Try.prog) 22 5 .i64 .i64 Try.underlying22 hi021 1 hsz21 A0 l0.length c0 x5_12 ji6 q021 ql21 q21 hroom21
                      have hr21 := Kd.F_mid (lo := (x5_12 : Int).toNat) (hi := (ji6 : Int).toNat) (c := c0) hC21 (by omega) (by omega) hroom21
                      obtain ⟨A21, hA21⟩ : ∃ A1, A1 = (if c0 = (x5_12 : Int).toNat then A0 else (A0 : Option Addr).map (·.add ((x5_12 : Int).toNat * 1))) := ⟨_, rfl⟩
                      obtain ⟨c21, hc21⟩ : ∃ c1, c1 = c0 - (x5_12 : Int).toNat := ⟨_, rfl⟩
                      have hy21 : y108.length = (ji6 : Int).toNat - (x5_12 : Int).toNat := (by rw [Ny108.out, List.length_drop, List.length_take] <;> omega)
                      rw [show ((l0).take (ji6 : Int).toNat).drop (x5_12 : Int).toNat = y108 from Ny108.out.symm] at hr21
                      replace hr21 : Kd.F (Kd.int .u8) _ _ A21 y108.length y108 := (by rw [hA21]; exact hr21)
                      rw [← hy21, ← hA21, ← hc21] at hcut21
                      have HO112 := Aside0.mk (show Kd.V (Kd.int .u8) 5 _ w.heap.size _ (.slice A21 y108.length c21) y108 from Kd.V_mk (by rw [hy21, hc21]; exact Nat.sub_le_sub_right (Nat.le_trans (by omega) hroom21) _) hr21)
                      have HC112 := Aside0.mk (show y108.length ≤ c21 from by rw [hy21, hc21]; exact Nat.sub_le_sub_right (Nat.le_trans (by omega) hroom21) _)
                      clear hr21 hC21 hroom21 hi021 hsz21 hc21
                      have KY21 := Aside0.mk hy21
                      have KA21 := Aside0.mk hA21
                      clear hy21 hA21
                      replace q21 := eq_true q21
                      go_wp2_with go_step3
                      repeat (go_quiet (fail); try go_wp2_with go_step3)
                      go_loopg [7] kj12 (fun kq v7 w' => ∃ (x7_4 : List Int), Aside0 (qp_line.l1 kq l0 ji6 x7_4 y108 = some (r1, r2, r3)) ∧ Aside0 (kq ≤ kj12) ∧ Aside0 (Kd.V (Kd.int .u8) 5 w' w.heap.size (fun k_ => (P0_ k_ ∨ w.heap.size ≤ k_)) (.slice A0 l0.length c0) l0) ∧ Aside0 (Kd.V (Kd.int .u8) 5 w' w.heap.size (fun k_ => (P0_ k_ ∨ w.heap.size ≤ k_)) v7 x7_4) ∧ Aside0 (Kd.V (Kd.int .u8) 5 w' w.heap.size (fun k_ => (P0_ k_ ∨ w.heap.size ≤ k_)) (.slice A21 y108.length c21) y108) ∧ Aside0 (Below w.heap.size w w'))
                      case atStart => exact ⟨(y103), H', ⟨Nat.le_refl _⟩, ⟨by (with_reducible repeat (first | apply Kd.V_alloc | apply Kd.V_drewN | apply Kd.V_drew)); exact HO_0.out⟩, ⟨by (with_reducible repeat (first | apply Kd.V_alloc | apply Kd.V_drewN | apply Kd.V_drew)); exact HO107.out⟩, ⟨by (with_reducible repeat (first | apply Kd.V_alloc | apply Kd.V_drewN | apply Kd.V_drew)); exact HO112.out⟩, ⟨by repeat (first | (with_reducible first | exact HB.out | apply below_alloc | apply pw_below_drewN | apply below_drew1) | exact HB.out)⟩⟩
                      case round =>
                        clear H'
                        try clear c1
                        try clear p1
                        try clear q1
                        try clear hx1
                        try clear c2
                        try clear p2
                        try clear q2
                        try clear c3
                        try clear c3b0
                        try clear c4
                        try clear c4b0
                        try clear c5
                        try clear c5b0
                        try clear c5b1
                        try clear p6
                        try clear c8
                        try clear c8b0
                        try clear c9
                        try clear c9b0
                        try clear p10
                        try clear q10
                        try clear hx10
                        try clear c11
                        try clear c11b0
                        try clear c12
                        try clear c12b0
                        try clear c14
                        try clear c15
                        try clear c15b0
                        try clear c15b1
                        try clear c16
                        try clear c16b0
                        try clear c16b1
                        try clear c17
                        try clear c17b0
                        try clear c18
                        try clear c18b0
                        try clear c18b1
                        try clear c19
                        try clear c19b0
                        try clear c19b1
                        try clear q20
                        try clear c21
                        try clear q21
                        try clear hx101_0
                        try clear hx102_0
                        try clear p1
                        try clear p10
                        try clear p101
                        try clear p102
                        try clear p2
                        try clear p6
                        try clear q021
                        try clear q1
                        try clear q10
                        try clear q101
                        try clear q102
                        try clear q20
                        try clear q21
                        obtain ⟨x7_4, HA, HK4, HO_0, HO_7, HO_8, HB⟩ := hrel
                        cases gk with
                        | zero => exact absurd HA.out (by simp [qp_line.l1])
                        | succ k4 =>
                          have H := HA.out
                          clear HA
                          simp only [qp_line.l1] at H
                          by_cases c22 : (x7_4.length : Int) > 0
                          · rw [if_pos c22] at H
                            have c22b0 : decide (0 < (x7_4.length : Int)) = true := decide_eq_true c22
                            have c22b1 : decide (0 < x7_4.length) = true := decide_eq_true (by omega)
                            clear c22
                            obtain ⟨ji23, hji23⟩ : ∃ j_ : Int, (wrap64 ((x7_4.length : Int) - 1)) = j_ := ⟨_, rfl⟩
                            replace H : (if 0 ≤ (ji23) then (if (ji23) < (x7_4.length : Int) then (if (rd x7_4 (ji23)) = 32 then (if (ji23) ≤ (x7_4.length : Int) then (qp_line.l1 k4 l0 ji6 (x7_4.take ((ji23) : Int).toNat) y108) else (none)) else (if (rd x7_4 (ji23)) = 9 then (if (ji23) ≤ (x7_4.length : Int) then (qp_line.l1 k4 l0 ji6 (x7_4.take ((ji23) : Int).toNat) y108) else (none)) else (if 0 ≤ ji6 then (if ji6 ≤ (l0.length : Int) then (some (x7_4, y108, (l0.drop (ji6 : Int).toNat))) else (none)) else (none)))) else (none)) else (none)) = some (r1, r2, r3) := by first | (rw [hji23] at H; exact H) | (simp only [hji23] at H ⊢; exact H)
                            have hji23w : (IntKind.i64.wrap ((x7_4.length : Int) - 1)) = ji23 := (i64_w _).trans hji23
                            by_cases c24 : 0 ≤ (ji23)
                            · rw [if_pos c24] at H
                              have c24b0 : decide (0 ≤ (ji23)) = true := decide_eq_true c24
                              clear c24
                              by_cases c25 : (ji23) < (x7_4.length : Int)
                              · rw [if_pos c25] at H
                                have c25b0 : decide ((ji23) < (x7_4.length : Int)) = true := decide_eq_true c25
                                clear c25
                                by_cases c26 : (rd x7_4 (ji23)) = 32
                                · rw [if_pos c26] at H
                                  have c26b0 : ((rd x7_4 (ji23)) == 32) = true := beq_iff_eq.mpr c26
                                  have c26b1 : ((rd x7_4 (ji23)) != 32) = false := bne_eq_false_iff_eq.mpr c26
                                  clear c26
                                  have c27b0 := eq_true (of_decide_eq_true (by first | (with_reducible assumption) | assumption) : 0 ≤ (ji23))
                                  by_cases c28 : (ji23) ≤ (x7_4.length : Int)
                                  · rw [if_pos c28] at H
                                    have c28b0 := eq_true c28
                                    have c28b1 : decide ((ji23) ≤ (x7_4.length : Int)) = true := decide_eq_true c28
                                    clear c28
                                    obtain ⟨y119, hy119⟩ : ∃ y_ : List Int, y_ = (x7_4.take ((ji23) : Int).toNat) := ⟨_, rfl⟩
                                    replace H : (qp_line.l1 k4 l0 ji6 y119 y108) = some (r1, r2, r3) := by first | (rw [hy119]; with_reducible exact H) | (have H2_ := (Option.bind_some _ _).symm.trans H; rw [hy119]; with_reducible exact H2_) | (have H2_ := (Option.bind_some _ _).symm.trans H; with_reducible exact H2_) | with_reducible exact H | (rw [hy119]; exact H) | exact H
                                    have Ny119 := Aside0.mk hy119
                                    clear hy119
                                    have H' := Aside0.mk H
                                    clear H
                                    obtain ⟨Ao29, co29, eo29⟩ := Kd.V_slice HO_7.out
                                    subst eo29
                                    have p118 : 0 ≤ ((ji23) : Int) := of_decide_eq_true (by first | (with_reducible assumption) | assumption)
                                    have q118 : (ji23) < (x7_4.length : Int) := of_decide_eq_true (by first | (with_reducible assumption) | assumption)
                                    obtain ⟨ad118, e118, hx118_0⟩ := Kd.at_int (Kd.V_reads' HO_7.out).2.2 (ji23) p118 q118
                                    cases e118
                                    replace p118 := eq_true p118
                                    replace q118 := eq_true q118
                                    have q30 : ((ji23) : Int) ≤ ((x7_4.length : Int) : Int) := of_decide_eq_true (by first | (with_reducible assumption) | assumption)
                                    obtain ⟨i030, hi030, _, hsz30, _⟩ := info_parts info5
                                    have hroom30 : x7_4.length ≤ co29 := (Kd.V_reads' HO_7.out).2.1
                                    have hC30 : Kd.F (Kd.int .u8) _ _ (some ad118) x7_4.length x7_4 := (Kd.V_at (base := w.heap.size) HO_7.out).2.2
                                    have hcut30 := cut_to (P := Try.prog) 22 5 .i64 Try.underlying22 hi030 (some ad118) x7_4.length co29 (ji23) (of_decide_eq_true (by first | (with_reducible assumption) | assumption)) q30 hroom30
                                    have hr30 := Kd.F_take (m := ((ji23) : Int).toNat) hC30 (by omega)
                                    have hy30 : y119.length = ((ji23) : Int).toNat := (by rw [Ny119.out, List.length_take]; omega)
                                    rw [← Ny119.out] at hr30
                                    rw [← hy30] at hcut30
                                    have HO123 := Aside0.mk (show Kd.V (Kd.int .u8) 5 _ w.heap.size _ (.slice (some ad118) y119.length co29) y119 from Kd.V_mk (by omega) hr30)
                                    have HC123 := Aside0.mk (show y119.length ≤ co29 from by omega)
                                    clear hr30 hC30 hroom30 hi030 hsz30
                                    have KY30 := Aside0.mk hy30
                                    clear hy30
                                    replace q30 := eq_true q30
                                    go_wp2_with go_step3
                                    repeat (go_quiet (fail); try go_wp2_with go_step3)
                                    go_roundg k4
                                    case measure => have := HJ1.out; have := HJ6.out; have := HJ12.out; have := HK4.out; omega
                                    case rel => exact ⟨(y119), H', ⟨by have := HJ1.out; have := HJ6.out; have := HJ12.out; have := HK4.out; omega⟩, ⟨by (with_reducible repeat (first | apply Kd.V_alloc | apply Kd.V_drewN | apply Kd.V_drew)); exact HO_0.out⟩, ⟨by (with_reducible repeat (first | apply Kd.V_alloc | apply Kd.V_drewN | apply Kd.V_drew)); exact HO123.out⟩, ⟨by (with_reducible repeat (first | apply Kd.V_alloc | apply Kd.V_drewN | apply Kd.V_drew)); exact HO_8.out⟩, ⟨by repeat (first | (with_reducible first | exact HB.out | apply below_alloc | apply pw_below_drewN | apply below_drew1) | exact HB.out)⟩⟩
                                  · rw [if_neg c28] at H
                                    exact absurd H (by simp)
                                · rw [if_neg c26] at H
                                  have c26b0 : ((rd x7_4 (ji23)) == 32) = false := beq_eq_false_iff_ne.mpr c26
                                  have c26b1 : ((rd x7_4 (ji23)) != 32) = true := bne_iff_ne.mpr c26
                                  by_cases c31 : (rd x7_4 (ji23)) = 9
                                  · rw [if_pos c31] at H
                                    have c31b0 : ((rd x7_4 (ji23)) == 9) = true := beq_iff_eq.mpr c31
                                    have c31b1 : ((rd x7_4 (ji23)) != 9) = false := bne_eq_false_iff_eq.mpr c31
                                    clear c31
                                    have c32b0 := eq_true (of_decide_eq_true (by first | (with_reducible assumption) | assumption) : 0 ≤ (ji23))
                                    by_cases c33 : (ji23) ≤ (x7_4.length : Int)
                                    · rw [if_pos c33] at H
                                      have c33b0 := eq_true c33
                                      have c33b1 : decide ((ji23) ≤ (x7_4.length : Int)) = true := decide_eq_true c33
                                      clear c33
                                      obtain ⟨y124, hy124⟩ : ∃ y_ : List Int, y_ = (x7_4.take ((ji23) : Int).toNat) := ⟨_, rfl⟩
                                      replace H : (qp_line.l1 k4 l0 ji6 y124 y108) = some (r1, r2, r3) := by first | (rw [hy124]; with_reducible exact H) | (have H2_ := (Option.bind_some _ _).symm.trans H; rw [hy124]; with_reducible exact H2_) | (have H2_ := (Option.bind_some _ _).symm.trans H; with_reducible exact H2_) | with_reducible exact H | (rw [hy124]; exact H) | exact H
                                      have Ny124 := Aside0.mk hy124
                                      clear hy124
                                      have H' := Aside0.mk H
                                      clear H
                                      obtain ⟨Ao34, co34, eo34⟩ := Kd.V_slice HO_7.out
                                      subst eo34
                                      have p118 : 0 ≤ ((ji23) : Int) := of_decide_eq_true (by first | (with_reducible assumption) | assumption)
                                      have q118 : (ji23) < (x7_4.length : Int) := of_decide_eq_true (by first | (with_reducible assumption) | assumption)
                                      obtain ⟨ad118, e118, hx118_0⟩ := Kd.at_int (Kd.V_reads' HO_7.out).2.2 (ji23) p118 q118
                                      cases e118
                                      replace p118 := eq_true p118
                                      replace q118 := eq_true q118
                                      have q35 : ((ji23) : Int) ≤ ((x7_4.length : Int) : Int) := of_decide_eq_true (by first | (with_reducible assumption) | assumption)
                                      obtain ⟨i035, hi035, _, hsz35, _⟩ := info_parts info5
                                      have hroom35 : x7_4.length ≤ co34 := (Kd.V_reads' HO_7.out).2.1
                                      have hC35 : Kd.F (Kd.int .u8) _ _ (some ad118) x7_4.length x7_4 := (Kd.V_at (base := w.heap.size) HO_7.out).2.2
                                      have hcut35 := cut_to (P := Try.prog) 22 5 .i64 Try.underlying22 hi035 (some ad118) x7_4.length co34 (ji23) (of_decide_eq_true (by first | (with_reducible assumption) | assumption)) q35 hroom35
                                      have hr35 := Kd.F_take (m := ((ji23) : Int).toNat) hC35 (by omega)
                                      have hy35 : y124.length = ((ji23) : Int).toNat := (by rw [Ny124.out, List.length_take]; omega)
                                      rw [← Ny124.out] at hr35
                                      rw [← hy35] at hcut35
                                      have HO128 := Aside0.mk (show Kd.V (Kd.int .u8) 5 _ w.heap.size _ (.slice (some ad118) y124.length co34) y124 from Kd.V_mk (by omega) hr35)
                                      have HC128 := Aside0.mk (show y124.length ≤ co34 from by omega)
                                      clear hr35 hC35 hroom35 hi035 hsz35
                                      have KY35 := Aside0.mk hy35
                                      clear hy35
                                      replace q35 := eq_true q35
                                      go_wp2_with go_step3
                                      repeat (go_quiet (fail); try go_wp2_with go_step3)
                                      go_roundg k4
                                      case measure => have := HJ1.out; have := HJ6.out; have := HJ12.out; have := HK4.out; omega
                                      case rel => exact ⟨(y124), H', ⟨by have := HJ1.out; have := HJ6.out; have := HJ12.out; have := HK4.out; omega⟩, ⟨by (with_reducible repeat (first | apply Kd.V_alloc | apply Kd.V_drewN | apply Kd.V_drew)); exact HO_0.out⟩, ⟨by (with_reducible repeat (first | apply Kd.V_alloc | apply Kd.V_drewN | apply Kd.V_drew)); exact HO128.out⟩, ⟨by (with_reducible repeat (first | apply Kd.V_alloc | apply Kd.V_drewN | apply Kd.V_drew)); exact HO_8.out⟩, ⟨by repeat (first | (with_reducible first | exact HB.out | apply below_alloc | apply pw_below_drewN | apply below_drew1) | exact HB.out)⟩⟩
                                    · rw [if_neg c33] at H
                                      exact absurd H (by simp)
                                  · rw [if_neg c31] at H
                                    have c31b0 : ((rd x7_4 (ji23)) == 9) = false := beq_eq_false_iff_ne.mpr c31
                                    have c31b1 : ((rd x7_4 (ji23)) != 9) = true := bne_iff_ne.mpr c31
                                    by_cases c36 : 0 ≤ ji6
                                    · rw [if_pos c36] at H
                                      have c36b0 := eq_true c36
                                      have c36b1 : decide (0 ≤ ji6) = true := decide_eq_true c36
                                      clear c36
                                      by_cases c37 : ji6 ≤ (l0.length : Int)
                                      · rw [if_pos c37] at H
                                        have c37b0 := eq_true c37
                                        have c37b1 : decide (ji6 ≤ (l0.length : Int)) = true := decide_eq_true c37
                                        clear c37
                                        obtain ⟨y129, hy129⟩ : ∃ y_ : List Int, y_ = (l0.drop (ji6 : Int).toNat) := ⟨_, rfl⟩
                                        replace H : (some (x7_4, y108, y129)) = some (r1, r2, r3) := by first | (rw [hy129]; with_reducible exact H) | (have H2_ := (Option.bind_some _ _).symm.trans H; rw [hy129]; with_reducible exact H2_) | (have H2_ := (Option.bind_some _ _).symm.trans H; with_reducible exact H2_) | with_reducible exact H | (rw [hy129]; exact H) | exact H
                                        have Ny129 := Aside0.mk hy129
                                        clear hy129
                                        simp only [Option.some.injEq, Prod.mk.injEq] at H
                                        obtain ⟨rfl, rfl, rfl⟩ := H
                                        obtain ⟨Ao38, co38, eo38⟩ := Kd.V_slice HO_7.out
                                        subst eo38
                                        have p118 : 0 ≤ ((ji23) : Int) := of_decide_eq_true (by first | (with_reducible assumption) | assumption)
                                        have q118 : (ji23) < (x7_4.length : Int) := of_decide_eq_true (by first | (with_reducible assumption) | assumption)
                                        obtain ⟨ad118, e118, hx118_0⟩ := Kd.at_int (Kd.V_reads' HO_7.out).2.2 (ji23) p118 q118
                                        cases e118
                                        replace p118 := eq_true p118
                                        replace q118 := eq_true q118
                                        have q39 : (ji6 : Int) ≤ ((l0.length : Int) : Int) := of_decide_eq_true (by first | (with_reducible assumption) | assumption)
                                        obtain ⟨i039, hi039, _, hsz39, _⟩ := info_parts info5
                                        have hroom39 : l0.length ≤ c0 := (Kd.V_reads' HO_0.out).2.1
                                        have hC39 : Kd.F (Kd.int .u8) _ _ A0 l0.length l0 := (Kd.V_at (base := w.heap.size) HO_0.out).2.2
                                        have q039 : (0 : Int) ≤ (ji6 : Int) := of_decide_eq_true (by first | (with_reducible assumption) | assumption)
                                        have hcut39 := cut_from (P := Try.prog) 22 5 .i64 Try.underlying22 hi039 1 hsz39 A0 l0.length c0 ji6 q039 q39
                                        have hr39 := Kd.F_cut (m := (ji6 : Int).toNat) (c := c0) hC39 (by omega) hroom39
                                        obtain ⟨A39, hA39⟩ : ∃ A1, A1 = (if c0 = (ji6 : Int).toNat then A0 else (A0 : Option Addr).map (·.add ((ji6 : Int).toNat * 1))) := ⟨_, rfl⟩
                                        obtain ⟨c39, hc39⟩ : ∃ c1, c1 = c0 - (ji6 : Int).toNat := ⟨_, rfl⟩
                                        have hy39 : y129.length = l0.length - (ji6 : Int).toNat := (by rw [Ny129.out, List.length_drop] <;> omega)
                                        rw [show (l0).drop (ji6 : Int).toNat = y129 from Ny129.out.symm] at hr39
                                        replace hr39 : Kd.F (Kd.int .u8) _ _ A39 y129.length y129 := (by rw [hA39]; exact hr39)
                                        rw [← hy39, ← hA39, ← hc39] at hcut39
                                        have HO133 := Aside0.mk (show Kd.V (Kd.int .u8) 5 _ w.heap.size _ (.slice A39 y129.length c39) y129 from Kd.V_mk (by rw [hy39, hc39]; exact Nat.sub_le_sub_right hroom39 _) hr39)
                                        have HC133 := Aside0.mk (show y129.length ≤ c39 from by rw [hy39, hc39]; exact Nat.sub_le_sub_right hroom39 _)
                                        clear hr39 hC39 hroom39 hi039 hsz39 hc39
                                        have KY39 := Aside0.mk hy39
                                        have KA39 := Aside0.mk hA39
                                        clear hy39 hA39
                                        replace q39 := eq_true q39
                                        go_wp2_with go_step3
                                        repeat (go_quiet (fail); try go_wp2_with go_step3)
                                        (first | go_ret3 | (rw [Exit.noGoto_ret]; go_ret3))
                                        exact ⟨_, _, _, by first | rfl | (simp [errW_none, errW_some] <;> rfl) | (simp only [← hji6, ← hji23]; first | rfl | (simp [errW_none, errW_some] <;> rfl)) | (simp [*, errW_none, errW_some] <;> rfl), by (with_reducible repeat (first | apply Kd.V_alloc | apply Kd.V_drewN | apply Kd.V_drew)); exact HO_7.out, by (with_reducible repeat (first | apply Kd.V_alloc | apply Kd.V_drewN | apply Kd.V_drew)); exact HO_8.out, by (with_reducible repeat (first | apply Kd.V_alloc | apply Kd.V_drewN | apply Kd.V_drew)); exact HO133.out, by repeat (first | (with_reducible first | exact HB.out | apply below_alloc | apply pw_below_drewN | apply below_drew1) | exact HB.out)⟩
                                      · rw [if_neg c37] at H
                                        exact absurd H (by simp)
                                    · rw [if_neg c36] at H
                                      exact absurd H (by simp)
                              · rw [if_neg c25] at H
                                exact absurd H (by simp)
                            · rw [if_neg c24] at H
                              exact absurd H (by simp)
                          · rw [if_neg c22] at H
                            have c22b0 : decide (0 < (x7_4.length : Int)) = false := decide_eq_false c22
                            have c22b1 : decide (0 < x7_4.length) = false := decide_eq_false (by omega)
                            clear c22
                            by_cases c40 : 0 ≤ ji6
                            · rw [if_pos c40] at H
                              have c40b0 := eq_true c40
                              have c40b1 : decide (0 ≤ ji6) = true := decide_eq_true c40
                              clear c40
                              by_cases c41 : ji6 ≤ (l0.length : Int)
                              · rw [if_pos c41] at H
                                have c41b0 := eq_true c41
                                have c41b1 : decide (ji6 ≤ (l0.length : Int)) = true := decide_eq_true c41
                                clear c41
                                obtain ⟨y113, hy113⟩ : ∃ y_ : List Int, y_ = (l0.drop (ji6 : Int).toNat) := ⟨_, rfl⟩
                                replace H : (some (x7_4, y108, y113)) = some (r1, r2, r3) := by first | (rw [hy113]; with_reducible exact H) | (have H2_ := (Option.bind_some _ _).symm.trans H; rw [hy113]; with_reducible exact H2_) | (have H2_ := (Option.bind_some _ _).symm.trans H; with_reducible exact H2_) | with_reducible exact H | (rw [hy113]; exact H) | exact H
                                have Ny113 := Aside0.mk hy113
                                clear hy113
                                simp only [Option.some.injEq, Prod.mk.injEq] at H
                                obtain ⟨rfl, rfl, rfl⟩ := H
                                obtain ⟨Ao42, co42, eo42⟩ := Kd.V_slice HO_7.out
                                subst eo42
                                have q43 : (ji6 : Int) ≤ ((l0.length : Int) : Int) := of_decide_eq_true (by first | (with_reducible assumption) | assumption)
                                obtain ⟨i043, hi043, _, hsz43, _⟩ := info_parts info5
                                have hroom43 : l0.length ≤ c0 := (Kd.V_reads' HO_0.out).2.1
                                have hC43 : Kd.F (Kd.int .u8) _ _ A0 l0.length l0 := (Kd.V_at (base := w.heap.size) HO_0.out).2.2
                                have q043 : (0 : Int) ≤ (ji6 : Int) := of_decide_eq_true (by first | (with_reducible assumption) | assumption)
                                have hcut43 := cut_from (P := Try.prog) 22 5 .i64 Try.underlying22 hi043 1 hsz43 A0 l0.length c0 ji6 q043 q43
                                have hr43 := Kd.F_cut (m := (ji6 : Int).toNat) (c := c0) hC43 (by omega) hroom43
                                obtain ⟨A43, hA43⟩ : ∃ A1, A1 = (if c0 = (ji6 : Int).toNat then A0 else (A0 : Option Addr).map (·.add ((ji6 : Int).toNat * 1))) := ⟨_, rfl⟩
                                obtain ⟨c43, hc43⟩ : ∃ c1, c1 = c0 - (ji6 : Int).toNat := ⟨_, rfl⟩
                                have hy43 : y113.length = l0.length - (ji6 : Int).toNat := (by rw [Ny113.out, List.length_drop] <;> omega)
                                rw [show (l0).drop (ji6 : Int).toNat = y113 from Ny113.out.symm] at hr43
                                replace hr43 : Kd.F (Kd.int .u8) _ _ A43 y113.length y113 := (by rw [hA43]; exact hr43)
                                rw [← hy43, ← hA43, ← hc43] at hcut43
                                have HO117 := Aside0.mk (show Kd.V (Kd.int .u8) 5 _ w.heap.size _ (.slice A43 y113.length c43) y113 from Kd.V_mk (by rw [hy43, hc43]; exact Nat.sub_le_sub_right hroom43 _) hr43)
                                have HC117 := Aside0.mk (show y113.length ≤ c43 from by rw [hy43, hc43]; exact Nat.sub_le_sub_right hroom43 _)
                                clear hr43 hC43 hroom43 hi043 hsz43 hc43
                                have KY43 := Aside0.mk hy43
                                have KA43 := Aside0.mk hA43
                                clear hy43 hA43
                                replace q43 := eq_true q43
                                go_wp2_with go_step3
                                repeat (go_quiet (fail); try go_wp2_with go_step3)
                                (first | go_ret3 | (rw [Exit.noGoto_ret]; go_ret3))
                                exact ⟨_, _, _, by first | rfl | (simp [errW_none, errW_some] <;> rfl) | (simp only [← hji6]; first | rfl | (simp [errW_none, errW_some] <;> rfl)) | (simp [*, errW_none, errW_some] <;> rfl), by (with_reducible repeat (first | apply Kd.V_alloc | apply Kd.V_drewN | apply Kd.V_drew)); exact HO_7.out, by (with_reducible repeat (first | apply Kd.V_alloc | apply Kd.V_drewN | apply Kd.V_drew)); exact HO_8.out, by (with_reducible repeat (first | apply Kd.V_alloc | apply Kd.V_drewN | apply Kd.V_drew)); exact HO117.out, by repeat (first | (with_reducible first | exact HB.out | apply below_alloc | apply pw_below_drewN | apply below_drew1) | exact HB.out)⟩
                              · rw [if_neg c41] at H
                                exact absurd H (by simp)
                            · rw [if_neg c40] at H
                              exact absurd H (by simp)
                    · rw [if_neg c19] at H
                      exact absurd H (by simp)
                  · rw [if_neg c18] at H
                    exact absurd H (by simp)
                · rw [if_neg c16] at H
                  exact absurd H (by simp)
              · rw [if_neg c15] at H
                exact absurd H (by simp)

end Go.Proofs.Ytcnbkblnchechaa.P
