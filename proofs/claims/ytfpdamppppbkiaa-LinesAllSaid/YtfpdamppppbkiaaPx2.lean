-- Written by a program of this session (wip/tools/mk.sh) for this claim: it runs the kit's print with contracts of our own. Lean checks it.
import Derived.Test.YtfpdamppppbkiaaPx0
import Derived.Test.YtfpdamppppbkiaaPx1
namespace Go.Proofs.Ytfpdamppppbkiaa.P
open Go.RowKit Go.Proofs.YtfpdamppppbkiaaW.PrintWords Go.Proofs.YtfpdamppppbkiaaW.PrintLast Go.Proofs.YtfpdamppppbkiaaW.PrintMore
attribute [-simp] Int.tmod_tmod_of_dvd
attribute [local go_sem] max2_int min2_int max_two min_two max_three min_three max_four min_four   -- for this text's walks alone
set_option linter.unusedVariables false
set_option linter.unusedSimpArgs false

/-! ### letterboxlaw05_LinesAll: function 3 -/
mutual
def letterboxlaw05_LinesAll.l0 : Nat → List Int → List (S29) → Int → Int → Option (Bool)
  | 0, _, _, _, _ => none
  | k + 1, x0, x4, x5, x6 => if x6 < (x4.length : Int) then (if 0 ≤ x6 then (if ((rd_T29 x4 x6).f0) = x5 then (if ((rd_T29 x4 x6).f1) < x5 then (letterboxlaw05_LinesAll.j1 k x0 x4 x6 true) else (if ((rd_T29 x4 x6).f2) ≤ x5 then (letterboxlaw05_LinesAll.j1 k x0 x4 x6 true) else (if ((rd_T29 x4 x6).f2) < ((rd_T29 x4 x6).f1) then (letterboxlaw05_LinesAll.j1 k x0 x4 x6 true) else (if ((rd_T29 x4 x6).f2) > (wrap64 (((rd_T29 x4 x6).f1) + 2)) then (letterboxlaw05_LinesAll.j1 k x0 x4 x6 true) else (letterboxlaw05_LinesAll.j1 k x0 x4 x6 (decide (((rd_T29 x4 x6).f2) > (x0.length : Int)))))))) else (letterboxlaw05_LinesAll.j1 k x0 x4 x6 true)) else (none)) else (some (x5 == (x0.length : Int)))
def letterboxlaw05_LinesAll.j1 : Nat → List Int → List (S29) → Int → Bool → Option (Bool)
  | 0, _, _, _, _ => none
  | k + 1, x0, x4, x6, x86 => if x86 = true then (some false) else (if 0 ≤ x6 then (if x6 < (x4.length : Int) then (letterboxlaw05_LinesAll.l1 k x0 x4 x6 ((rd_T29 x4 x6).f0)) else (none)) else (none))
def letterboxlaw05_LinesAll.l1 : Nat → List Int → List (S29) → Int → Int → Option (Bool)
  | 0, _, _, _, _ => none
  | k + 1, x0, x4, x6, x7 => if 0 ≤ x6 then (if x6 < (x4.length : Int) then (if x7 < ((rd_T29 x4 x6).f1) then (if 0 ≤ x7 then (if x7 < (x0.length : Int) then (if (rd x0 x7) = 10 then (some false) else (letterboxlaw05_LinesAll.l1 k x0 x4 x6 (wrap64 (x7 + 1)))) else (none)) else (none)) else (if x6 < (wrap64 ((x4.length : Int) - 1)) then (if 0 ≤ (wrap64 (((rd_T29 x4 x6).f2) - 1)) then (if (wrap64 (((rd_T29 x4 x6).f2) - 1)) < (x0.length : Int) then (if (rd x0 (wrap64 (((rd_T29 x4 x6).f2) - 1))) = 10 then (letterboxlaw05_LinesAll.l0 k x0 x4 ((rd_T29 x4 x6).f2) (wrap64 (x6 + 1))) else (some false)) else (none)) else (none)) else (letterboxlaw05_LinesAll.l0 k x0 x4 ((rd_T29 x4 x6).f2) (wrap64 (x6 + 1))))) else (none)) else (none)
end
def letterboxlaw05_LinesAll.f (k : Nat) (l0 : List Int) : Option (Bool) := (letterboxlaw05_awake.f).bind fun t102 => (if t102 = true then (if (l0.length : Int) > 500 then (some true) else ((lines_Of.f l0 0 (l0.length : Int)).bind fun t103 => (letterboxlaw05_LinesAll.l0 k l0 t103 0 0))) else (some false))
theorem letterboxlaw05_LinesAll.mono_l : ∀ k, (∀ y0 y1 y2 y3, LeO (letterboxlaw05_LinesAll.l0 k y0 y1 y2 y3) (letterboxlaw05_LinesAll.l0 (k + 1) y0 y1 y2 y3)) ∧ (∀ y0 y1 y2 y3, LeO (letterboxlaw05_LinesAll.j1 k y0 y1 y2 y3) (letterboxlaw05_LinesAll.j1 (k + 1) y0 y1 y2 y3)) ∧ (∀ y0 y1 y2 y3, LeO (letterboxlaw05_LinesAll.l1 k y0 y1 y2 y3) (letterboxlaw05_LinesAll.l1 (k + 1) y0 y1 y2 y3))
  | 0 => ⟨fun _ _ _ _ r h => by simp [letterboxlaw05_LinesAll.l0] at h, fun _ _ _ _ r h => by simp [letterboxlaw05_LinesAll.j1] at h, fun _ _ _ _ r h => by simp [letterboxlaw05_LinesAll.l1] at h⟩
  | k + 1 => by
    obtain ⟨ih0, ih1, ih2⟩ := letterboxlaw05_LinesAll.mono_l k
    refine ⟨?_, ?_, ?_⟩
    · intro y0 y1 y2 y3
      unfold letterboxlaw05_LinesAll.l0
      repeat' first
      | (with_reducible exact ih0 _ _ _ _)
      | (with_reducible exact ih1 _ _ _ _)
      | (with_reducible exact ih2 _ _ _ _)
      | (with_reducible exact LeO.refl _)
      | (with_reducible exact LeO.none _)
      | (with_reducible refine LeO.ite ?_ ?_)
      | (with_reducible refine LeO.bind ?_ (fun _ => ?_))
      | exact ih0 _ _ _ _
      | exact ih1 _ _ _ _
      | exact ih2 _ _ _ _
      | exact LeO.none _
      | refine LeO.ite ?_ ?_
      | refine LeO.bind ?_ (fun _ => ?_)
    · intro y0 y1 y2 y3
      unfold letterboxlaw05_LinesAll.j1
      repeat' first
      | (with_reducible exact ih0 _ _ _ _)
      | (with_reducible exact ih1 _ _ _ _)
      | (with_reducible exact ih2 _ _ _ _)
      | (with_reducible exact LeO.refl _)
      | (with_reducible exact LeO.none _)
      | (with_reducible refine LeO.ite ?_ ?_)
      | (with_reducible refine LeO.bind ?_ (fun _ => ?_))
      | exact ih0 _ _ _ _
      | exact ih1 _ _ _ _
      | exact ih2 _ _ _ _
      | exact LeO.none _
      | refine LeO.ite ?_ ?_
      | refine LeO.bind ?_ (fun _ => ?_)
    · intro y0 y1 y2 y3
      unfold letterboxlaw05_LinesAll.l1
      repeat' first
      | (with_reducible exact ih0 _ _ _ _)
      | (with_reducible exact ih1 _ _ _ _)
      | (with_reducible exact ih2 _ _ _ _)
      | (with_reducible exact LeO.refl _)
      | (with_reducible exact LeO.none _)
      | (with_reducible refine LeO.ite ?_ ?_)
      | (with_reducible refine LeO.bind ?_ (fun _ => ?_))
      | exact ih0 _ _ _ _
      | exact ih1 _ _ _ _
      | exact ih2 _ _ _ _
      | exact LeO.none _
      | refine LeO.ite ?_ ?_
      | refine LeO.bind ?_ (fun _ => ?_)
theorem letterboxlaw05_LinesAll.mono : ∀ a0 k, LeO (letterboxlaw05_LinesAll.f k a0) (letterboxlaw05_LinesAll.f (k + 1) a0) := by
  intro a0 k
  obtain ⟨ih0, ih1, ih2⟩ := letterboxlaw05_LinesAll.mono_l k
  unfold letterboxlaw05_LinesAll.f
  repeat' first
      | (with_reducible exact ih0 _ _ _ _)
      | (with_reducible exact ih1 _ _ _ _)
      | (with_reducible exact ih2 _ _ _ _)
      | (with_reducible exact LeO.refl _)
      | (with_reducible exact LeO.none _)
      | (with_reducible refine LeO.ite ?_ ?_)
      | (with_reducible refine LeO.bind ?_ (fun _ => ?_))
      | exact ih0 _ _ _ _
      | exact ih1 _ _ _ _
      | exact ih2 _ _ _ _
      | exact LeO.none _
      | refine LeO.ite ?_ ?_
      | refine LeO.bind ?_ (fun _ => ?_)
set_option maxHeartbeats 8000000 in
set_option maxRecDepth 100000 in
theorem letterboxlaw05_LinesAll.calls (k : Nat) (A0 : Option Addr) (c0 : Nat) (l0 : List Int) (r : Bool) (w : World) (hr0 : Kd.C (Kd.int .u8) w A0 l0.length l0) (hc0 : l0.length ≤ c0) (h : letterboxlaw05_LinesAll.f k l0 = some r) :
    Calls Try.prog 3 #[.slice A0 l0.length c0] w fun e w' => e = .returned (.bool r) ∧ Below w.heap.size w w' := by
  have hu27 := Try.underlying27
  have hw8_ : ∀ x_ : Int, IntKind.u8.wrap x_ = x_ % 256 := IntKind.wrap_u8
  have HR0 := Aside0.mk hr0
  have HC0 := Aside0.mk hc0
  clear hr0 hc0
  have HB := Aside0.mk (Below.refl w.heap.size w)
  have H : ((letterboxlaw05_awake.f).bind fun t102 => (if t102 = true then (if (l0.length : Int) > 500 then (some true) else ((lines_Of.f l0 0 (l0.length : Int)).bind fun t103 => (letterboxlaw05_LinesAll.l0 k l0 t103 0 0))) else (some false))) = some r := h
  clear h
  replace H := Option.bind_eq_some_iff.mp H
  obtain ⟨t102, A20, H⟩ := H
  replace H : (if t102 = true then (if (l0.length : Int) > 500 then (some true) else ((lines_Of.f l0 0 (l0.length : Int)).bind fun t103 => (letterboxlaw05_LinesAll.l0 k l0 t103 0 0))) else (some false)) = some r := H
  have A2 := Aside0.mk A20
  clear A20
  by_cases c3 : t102 = true
  · subst c3
    have H1 : (if (l0.length : Int) > 500 then (some true) else ((lines_Of.f l0 0 (l0.length : Int)).bind fun t103 => (letterboxlaw05_LinesAll.l0 k l0 t103 0 0))) = some r := by rw [if_pos rfl] at H; exact H
    clear H
    have H := H1
    clear H1
    by_cases c4 : (l0.length : Int) > 500
    · rw [if_pos c4] at H
      have c4b0 : decide (500 < (l0.length : Int)) = true := decide_eq_true c4
      have c4b1 : decide (500 < l0.length) = true := decide_eq_true (by omega)
      clear c4
      obtain rfl := Option.some.inj H
      go_enter Try.func3, Try.ntmps3
      go_wp2_with (first | (go_at_call 7; (with_reducible refine (letterboxlaw05_awake.calls  true _ A2.out).mono ?_); rintro e w5 ⟨rfl, hb⟩; have n0_ := Aside0.mk (below_step (by repeat (first | (with_reducible first | exact HB.out | apply below_alloc | apply pw_below_drewN | apply below_drew1) | exact HB.out)) hb); clear HB; have HB := n0_; clear n0_; (try clear hb); (try clear hb2); (try clear hk); (try clear hi)))
      repeat (go_quiet (first | (go_at_call 7; (with_reducible refine (letterboxlaw05_awake.calls  true _ A2.out).mono ?_); rintro e w5 ⟨rfl, hb⟩; have n0_ := Aside0.mk (below_step (by repeat (first | (with_reducible first | exact HB.out | apply below_alloc | apply pw_below_drewN | apply below_drew1) | exact HB.out)) hb); clear HB; have HB := n0_; clear n0_; (try clear hb); (try clear hb2); (try clear hk); (try clear hi))); try go_wp2_with (first | (go_at_call 7; (with_reducible refine (letterboxlaw05_awake.calls  true _ A2.out).mono ?_); rintro e w5 ⟨rfl, hb⟩; have n0_ := Aside0.mk (below_step (by repeat (first | (with_reducible first | exact HB.out | apply below_alloc | apply pw_below_drewN | apply below_drew1) | exact HB.out)) hb); clear HB; have HB := n0_; clear n0_; (try clear hb); (try clear hb2); (try clear hk); (try clear hi))))
      go_ret
      exact ⟨by first | rfl | (simp [errW_none, errW_some] <;> rfl) | (simp [*, errW_none, errW_some] <;> rfl), by repeat (first | (with_reducible first | exact HB.out | apply below_alloc | apply pw_below_drewN | apply below_drew1) | exact HB.out)⟩
    · rw [if_neg c4] at H
      have c4b0 : decide (500 < (l0.length : Int)) = false := decide_eq_false c4
      have c4b1 : decide (500 < l0.length) = false := decide_eq_false (by omega)
      clear c4
      replace H := Option.bind_eq_some_iff.mp H
      obtain ⟨t103, A60, H⟩ := H
      replace H : (letterboxlaw05_LinesAll.l0 k l0 t103 0 0) = some r := H
      have A6 := Aside0.mk A60
      clear A60
      have H' := Aside0.mk H
      clear H
      go_enter Try.func3, Try.ntmps3
      go_wp2_with (first | (go_at_call 7; (with_reducible refine (letterboxlaw05_awake.calls  true _ A2.out).mono ?_); rintro e w7 ⟨rfl, hb⟩; have n0_ := Aside0.mk (below_step (by repeat (first | (with_reducible first | exact HB.out | apply below_alloc | apply pw_below_drewN | apply below_drew1) | exact HB.out)) hb); clear HB; have HB := n0_; clear n0_; (try clear hb); (try clear hb2); (try clear hk); (try clear hi)) | (go_at_call 8; (with_reducible refine (lines_Of.calls _ _ l0 0 (l0.length : Int) t103 _ ?side1 ?side2 A6.out).mono ?_); (case side1 => repeat (first | exact (Kd.C_below HR0.out HB.out) | (with_reducible refine Kd.C_alloc ?_ _) | (with_reducible refine Kd.C_drewN ?_ _) | (with_reducible refine Kd.C_drew ?_))); (case side2 => exact HC0.out); rintro e w8 ⟨v104, rfl, ho0, hb⟩; have n0_ := Aside0.mk (Kd.R_lower ho0 (below_size (by repeat (first | (with_reducible first | exact HB.out | apply below_alloc | apply pw_below_drewN | apply below_drew1) | exact HB.out)))); have n1_ := Aside0.mk (below_step (by repeat (first | (with_reducible first | exact HB.out | apply below_alloc | apply pw_below_drewN | apply below_drew1) | exact HB.out)) hb); clear HB; have HO105 := n0_; have HB := n1_; clear n0_ n1_; (try clear hb); (try clear hb2); (try clear hk); (try clear hi); (try clear ho0)))
      repeat (go_quiet (first | (go_at_call 7; (with_reducible refine (letterboxlaw05_awake.calls  true _ A2.out).mono ?_); rintro e w7 ⟨rfl, hb⟩; have n0_ := Aside0.mk (below_step (by repeat (first | (with_reducible first | exact HB.out | apply below_alloc | apply pw_below_drewN | apply below_drew1) | exact HB.out)) hb); clear HB; have HB := n0_; clear n0_; (try clear hb); (try clear hb2); (try clear hk); (try clear hi)) | (go_at_call 8; (with_reducible refine (lines_Of.calls _ _ l0 0 (l0.length : Int) t103 _ ?side1 ?side2 A6.out).mono ?_); (case side1 => repeat (first | exact (Kd.C_below HR0.out HB.out) | (with_reducible refine Kd.C_alloc ?_ _) | (with_reducible refine Kd.C_drewN ?_ _) | (with_reducible refine Kd.C_drew ?_))); (case side2 => exact HC0.out); rintro e w8 ⟨v104, rfl, ho0, hb⟩; have n0_ := Aside0.mk (Kd.R_lower ho0 (below_size (by repeat (first | (with_reducible first | exact HB.out | apply below_alloc | apply pw_below_drewN | apply below_drew1) | exact HB.out)))); have n1_ := Aside0.mk (below_step (by repeat (first | (with_reducible first | exact HB.out | apply below_alloc | apply pw_below_drewN | apply below_drew1) | exact HB.out)) hb); clear HB; have HO105 := n0_; have HB := n1_; clear n0_ n1_; (try clear hb); (try clear hb2); (try clear hk); (try clear hi); (try clear ho0))); try go_wp2_with (first | (go_at_call 7; (with_reducible refine (letterboxlaw05_awake.calls  true _ A2.out).mono ?_); rintro e w7 ⟨rfl, hb⟩; have n0_ := Aside0.mk (below_step (by repeat (first | (with_reducible first | exact HB.out | apply below_alloc | apply pw_below_drewN | apply below_drew1) | exact HB.out)) hb); clear HB; have HB := n0_; clear n0_; (try clear hb); (try clear hb2); (try clear hk); (try clear hi)) | (go_at_call 8; (with_reducible refine (lines_Of.calls _ _ l0 0 (l0.length : Int) t103 _ ?side1 ?side2 A6.out).mono ?_); (case side1 => repeat (first | exact (Kd.C_below HR0.out HB.out) | (with_reducible refine Kd.C_alloc ?_ _) | (with_reducible refine Kd.C_drewN ?_ _) | (with_reducible refine Kd.C_drew ?_))); (case side2 => exact HC0.out); rintro e w8 ⟨v104, rfl, ho0, hb⟩; have n0_ := Aside0.mk (Kd.R_lower ho0 (below_size (by repeat (first | (with_reducible first | exact HB.out | apply below_alloc | apply pw_below_drewN | apply below_drew1) | exact HB.out)))); have n1_ := Aside0.mk (below_step (by repeat (first | (with_reducible first | exact HB.out | apply below_alloc | apply pw_below_drewN | apply below_drew1) | exact HB.out)) hb); clear HB; have HO105 := n0_; have HB := n1_; clear n0_ n1_; (try clear hb); (try clear hb2); (try clear hk); (try clear hi); (try clear ho0))))
      go_loopg [5, 6] k (fun kq v5 v6 w' => ∃ (x5_1 : Int) (x6_1 : Int), v5 = .int .i64 x5_1 ∧ v6 = .int .i64 x6_1 ∧ Aside0 (letterboxlaw05_LinesAll.l0 kq l0 t103 x5_1 x6_1 = some r) ∧ Aside0 (kq ≤ k) ∧ Aside0 (Kd.R k29 29 w' w.heap.size (fun _ => True) v104 t103) ∧ Aside0 (Below w.heap.size w w'))
      case atStart => exact ⟨(0), (0), (by first | rfl | (simp; done) | (simp [*]; done)), (by first | rfl | (simp; done) | (simp [*]; done)), H', ⟨Nat.le_refl _⟩, ⟨by (with_reducible repeat (first | apply Kd.R_alloc | apply Kd.R_drewN | apply Kd.R_drew)); exact HO105.out⟩, ⟨by repeat (first | (with_reducible first | exact HB.out | apply below_alloc | apply pw_below_drewN | apply below_drew1) | exact HB.out)⟩⟩
      case round =>
        clear H'
        try clear p2
        try clear c3
        try clear c4
        try clear c4b0
        try clear c4b1
        obtain ⟨x5_1, x6_1, rfl, rfl, HA, HK1, HO_4, HB⟩ := hrel
        cases gk with
        | zero => exact absurd HA.out (by simp [letterboxlaw05_LinesAll.l0])
        | succ k1 =>
          have H := HA.out
          clear HA
          simp only [letterboxlaw05_LinesAll.l0] at H
          by_cases c9 : x6_1 < (t103.length : Int)
          · rw [if_pos c9] at H
            have c9b0 : decide (x6_1 < (t103.length : Int)) = true := decide_eq_true c9
            clear c9
            have HC10 := Aside0.mk H
            clear H
            obtain ⟨Ao11, co11, eo11⟩ := Kd.R_slice HO_4.out
            subst eo11
            go_upto_region 11 with (fail)
            repeat (go_quiet (fail); go_upto_region 11 with (fail))
            go_cut [86] (fun v86 wc => ∃ (kq : Nat) (x86_9 : Bool), v86 = .bool x86_9 ∧ Aside0 (letterboxlaw05_LinesAll.j1 kq l0 t103 x6_1 x86_9 = some r) ∧ Aside0 (kq ≤ k1) ∧ Aside0 (Kd.R k29 29 wc w.heap.size (fun _ => True) (.slice Ao11 t103.length co11) t103) ∧ Aside0 (Below w.heap.size w wc))
            case first =>
              have H := HC10.out
              clear HC10
              by_cases c12 : 0 ≤ x6_1
              · rw [if_pos c12] at H
                have c12b0 : decide (0 ≤ x6_1) = true := decide_eq_true c12
                clear c12
                (first | rw [c12b0] | (simp only [i64_w, i32_w]; rw [c12b0]) | skip)
                by_cases c13 : ((rd_T29 t103 x6_1).f0) = x5_1
                · rw [if_pos c13] at H
                  have c13b0 : (((rd_T29 t103 x6_1).f0) == x5_1) = true := beq_iff_eq.mpr c13
                  have c13b1 : (((rd_T29 t103 x6_1).f0) != x5_1) = false := bne_eq_false_iff_eq.mpr c13
                  clear c13
                  by_cases c14 : ((rd_T29 t103 x6_1).f1) < x5_1
                  · rw [if_pos c14] at H
                    have c14b0 : decide (((rd_T29 t103 x6_1).f1) < x5_1) = true := decide_eq_true c14
                    clear c14
                    have H' := Aside0.mk H
                    clear H
                    have p106 : 0 ≤ (x6_1 : Int) := of_decide_eq_true (by first | (with_reducible assumption) | assumption)
                    have q106 : x6_1 < (t103.length : Int) := of_decide_eq_true (by first | (with_reducible assumption) | assumption)
                    obtain ⟨ad106, e106, hx106_0, hx106_1, hx106_2⟩ := at_T29 (Kd.R_reads' HO_4.out).2.2 x6_1 p106 q106
                    cases e106
                    replace p106 := eq_true p106
                    replace q106 := eq_true q106
                    have p107 : 0 ≤ (x6_1 : Int) := of_decide_eq_true (by first | (with_reducible assumption) | assumption)
                    have q107 : x6_1 < (t103.length : Int) := of_decide_eq_true (by first | (with_reducible assumption) | assumption)
                    obtain ⟨ad107, e107, hx107_0, hx107_1, hx107_2⟩ := at_T29 (Kd.R_reads' HO_4.out).2.2 x6_1 p107 q107
                    obtain rfl : ad106 = ad107 := (by injection e107)
                    replace p107 := eq_true p107
                    replace q107 := eq_true q107
                    go_wp2
                    repeat (go_quiet (fail); try go_wp2)
                    go_meet
                    case rel => exact ⟨_, (true), (by first | rfl | (simp; done) | (simp [*]; done)), H', ⟨by have := HK1.out; first | omega | exact Nat.le_refl _⟩, ⟨by (with_reducible repeat (first | apply Kd.R_alloc | apply Kd.R_drewN | apply Kd.R_drew)); exact HO_4.out⟩, ⟨by repeat (first | (with_reducible first | exact HB.out | apply below_alloc | apply pw_below_drewN | apply below_drew1) | exact HB.out)⟩⟩
                  · rw [if_neg c14] at H
                    have c14b0 : decide (((rd_T29 t103 x6_1).f1) < x5_1) = false := decide_eq_false c14
                    clear c14
                    by_cases c15 : ((rd_T29 t103 x6_1).f2) ≤ x5_1
                    · rw [if_pos c15] at H
                      have c15b0 : decide (((rd_T29 t103 x6_1).f2) ≤ x5_1) = true := decide_eq_true c15
                      clear c15
                      have H' := Aside0.mk H
                      clear H
                      have p106 : 0 ≤ (x6_1 : Int) := of_decide_eq_true (by first | (with_reducible assumption) | assumption)
                      have q106 : x6_1 < (t103.length : Int) := of_decide_eq_true (by first | (with_reducible assumption) | assumption)
                      obtain ⟨ad106, e106, hx106_0, hx106_1, hx106_2⟩ := at_T29 (Kd.R_reads' HO_4.out).2.2 x6_1 p106 q106
                      cases e106
                      replace p106 := eq_true p106
                      replace q106 := eq_true q106
                      have p107 : 0 ≤ (x6_1 : Int) := of_decide_eq_true (by first | (with_reducible assumption) | assumption)
                      have q107 : x6_1 < (t103.length : Int) := of_decide_eq_true (by first | (with_reducible assumption) | assumption)
                      obtain ⟨ad107, e107, hx107_0, hx107_1, hx107_2⟩ := at_T29 (Kd.R_reads' HO_4.out).2.2 x6_1 p107 q107
                      obtain rfl : ad106 = ad107 := (by injection e107)
                      replace p107 := eq_true p107
                      replace q107 := eq_true q107
                      have p108 : 0 ≤ (x6_1 : Int) := of_decide_eq_true (by first | (with_reducible assumption) | assumption)
                      have q108 : x6_1 < (t103.length : Int) := of_decide_eq_true (by first | (with_reducible assumption) | assumption)
                      obtain ⟨ad108, e108, hx108_0, hx108_1, hx108_2⟩ := at_T29 (Kd.R_reads' HO_4.out).2.2 x6_1 p108 q108
                      obtain rfl : ad106 = ad108 := (by injection e108)
                      replace p108 := eq_true p108
                      replace q108 := eq_true q108
                      go_wp2
                      repeat (go_quiet (fail); try go_wp2)
                      go_meet
                      case rel => exact ⟨_, (true), (by first | rfl | (simp; done) | (simp [*]; done)), H', ⟨by have := HK1.out; first | omega | exact Nat.le_refl _⟩, ⟨by (with_reducible repeat (first | apply Kd.R_alloc | apply Kd.R_drewN | apply Kd.R_drew)); exact HO_4.out⟩, ⟨by repeat (first | (with_reducible first | exact HB.out | apply below_alloc | apply pw_below_drewN | apply below_drew1) | exact HB.out)⟩⟩
                    · rw [if_neg c15] at H
                      have c15b0 : decide (((rd_T29 t103 x6_1).f2) ≤ x5_1) = false := decide_eq_false c15
                      clear c15
                      by_cases c16 : ((rd_T29 t103 x6_1).f2) < ((rd_T29 t103 x6_1).f1)
                      · rw [if_pos c16] at H
                        have c16b0 : decide (((rd_T29 t103 x6_1).f2) < ((rd_T29 t103 x6_1).f1)) = true := decide_eq_true c16
                        clear c16
                        have H' := Aside0.mk H
                        clear H
                        have p106 : 0 ≤ (x6_1 : Int) := of_decide_eq_true (by first | (with_reducible assumption) | assumption)
                        have q106 : x6_1 < (t103.length : Int) := of_decide_eq_true (by first | (with_reducible assumption) | assumption)
                        obtain ⟨ad106, e106, hx106_0, hx106_1, hx106_2⟩ := at_T29 (Kd.R_reads' HO_4.out).2.2 x6_1 p106 q106
                        cases e106
                        replace p106 := eq_true p106
                        replace q106 := eq_true q106
                        have p107 : 0 ≤ (x6_1 : Int) := of_decide_eq_true (by first | (with_reducible assumption) | assumption)
                        have q107 : x6_1 < (t103.length : Int) := of_decide_eq_true (by first | (with_reducible assumption) | assumption)
                        obtain ⟨ad107, e107, hx107_0, hx107_1, hx107_2⟩ := at_T29 (Kd.R_reads' HO_4.out).2.2 x6_1 p107 q107
                        obtain rfl : ad106 = ad107 := (by injection e107)
                        replace p107 := eq_true p107
                        replace q107 := eq_true q107
                        have p108 : 0 ≤ (x6_1 : Int) := of_decide_eq_true (by first | (with_reducible assumption) | assumption)
                        have q108 : x6_1 < (t103.length : Int) := of_decide_eq_true (by first | (with_reducible assumption) | assumption)
                        obtain ⟨ad108, e108, hx108_0, hx108_1, hx108_2⟩ := at_T29 (Kd.R_reads' HO_4.out).2.2 x6_1 p108 q108
                        obtain rfl : ad106 = ad108 := (by injection e108)
                        replace p108 := eq_true p108
                        replace q108 := eq_true q108
                        have p109 : 0 ≤ (x6_1 : Int) := of_decide_eq_true (by first | (with_reducible assumption) | assumption)
                        have q109 : x6_1 < (t103.length : Int) := of_decide_eq_true (by first | (with_reducible assumption) | assumption)
                        obtain ⟨ad109, e109, hx109_0, hx109_1, hx109_2⟩ := at_T29 (Kd.R_reads' HO_4.out).2.2 x6_1 p109 q109
                        obtain rfl : ad106 = ad109 := (by injection e109)
                        replace p109 := eq_true p109
                        replace q109 := eq_true q109
                        have p110 : 0 ≤ (x6_1 : Int) := of_decide_eq_true (by first | (with_reducible assumption) | assumption)
                        have q110 : x6_1 < (t103.length : Int) := of_decide_eq_true (by first | (with_reducible assumption) | assumption)
                        obtain ⟨ad110, e110, hx110_0, hx110_1, hx110_2⟩ := at_T29 (Kd.R_reads' HO_4.out).2.2 x6_1 p110 q110
                        obtain rfl : ad106 = ad110 := (by injection e110)
                        replace p110 := eq_true p110
                        replace q110 := eq_true q110
                        go_wp2
                        repeat (go_quiet (fail); try go_wp2)
                        go_meet
                        case rel => exact ⟨_, (true), (by first | rfl | (simp; done) | (simp [*]; done)), H', ⟨by have := HK1.out; first | omega | exact Nat.le_refl _⟩, ⟨by (with_reducible repeat (first | apply Kd.R_alloc | apply Kd.R_drewN | apply Kd.R_drew)); exact HO_4.out⟩, ⟨by repeat (first | (with_reducible first | exact HB.out | apply below_alloc | apply pw_below_drewN | apply below_drew1) | exact HB.out)⟩⟩
                      · rw [if_neg c16] at H
                        have c16b0 : decide (((rd_T29 t103 x6_1).f2) < ((rd_T29 t103 x6_1).f1)) = false := decide_eq_false c16
                        clear c16
                        by_cases c17 : ((rd_T29 t103 x6_1).f2) > (wrap64 (((rd_T29 t103 x6_1).f1) + 2))
                        · rw [if_pos c17] at H
                          have c17b0 : decide ((wrap64 (((rd_T29 t103 x6_1).f1) + 2)) < ((rd_T29 t103 x6_1).f2)) = true := decide_eq_true c17
                          clear c17
                          have H' := Aside0.mk H
                          clear H
                          have p106 : 0 ≤ (x6_1 : Int) := of_decide_eq_true (by first | (with_reducible assumption) | assumption)
                          have q106 : x6_1 < (t103.length : Int) := of_decide_eq_true (by first | (with_reducible assumption) | assumption)
                          obtain ⟨ad106, e106, hx106_0, hx106_1, hx106_2⟩ := at_T29 (Kd.R_reads' HO_4.out).2.2 x6_1 p106 q106
                          cases e106
                          replace p106 := eq_true p106
                          replace q106 := eq_true q106
                          have p107 : 0 ≤ (x6_1 : Int) := of_decide_eq_true (by first | (with_reducible assumption) | assumption)
                          have q107 : x6_1 < (t103.length : Int) := of_decide_eq_true (by first | (with_reducible assumption) | assumption)
                          obtain ⟨ad107, e107, hx107_0, hx107_1, hx107_2⟩ := at_T29 (Kd.R_reads' HO_4.out).2.2 x6_1 p107 q107
                          obtain rfl : ad106 = ad107 := (by injection e107)
                          replace p107 := eq_true p107
                          replace q107 := eq_true q107
                          have p108 : 0 ≤ (x6_1 : Int) := of_decide_eq_true (by first | (with_reducible assumption) | assumption)
                          have q108 : x6_1 < (t103.length : Int) := of_decide_eq_true (by first | (with_reducible assumption) | assumption)
                          obtain ⟨ad108, e108, hx108_0, hx108_1, hx108_2⟩ := at_T29 (Kd.R_reads' HO_4.out).2.2 x6_1 p108 q108
                          obtain rfl : ad106 = ad108 := (by injection e108)
                          replace p108 := eq_true p108
                          replace q108 := eq_true q108
                          have p109 : 0 ≤ (x6_1 : Int) := of_decide_eq_true (by first | (with_reducible assumption) | assumption)
                          have q109 : x6_1 < (t103.length : Int) := of_decide_eq_true (by first | (with_reducible assumption) | assumption)
                          obtain ⟨ad109, e109, hx109_0, hx109_1, hx109_2⟩ := at_T29 (Kd.R_reads' HO_4.out).2.2 x6_1 p109 q109
                          obtain rfl : ad106 = ad109 := (by injection e109)
                          replace p109 := eq_true p109
                          replace q109 := eq_true q109
                          have p110 : 0 ≤ (x6_1 : Int) := of_decide_eq_true (by first | (with_reducible assumption) | assumption)
                          have q110 : x6_1 < (t103.length : Int) := of_decide_eq_true (by first | (with_reducible assumption) | assumption)
                          obtain ⟨ad110, e110, hx110_0, hx110_1, hx110_2⟩ := at_T29 (Kd.R_reads' HO_4.out).2.2 x6_1 p110 q110
                          obtain rfl : ad106 = ad110 := (by injection e110)
                          replace p110 := eq_true p110
                          replace q110 := eq_true q110
                          have p111 : 0 ≤ (x6_1 : Int) := of_decide_eq_true (by first | (with_reducible assumption) | assumption)
                          have q111 : x6_1 < (t103.length : Int) := of_decide_eq_true (by first | (with_reducible assumption) | assumption)
                          obtain ⟨ad111, e111, hx111_0, hx111_1, hx111_2⟩ := at_T29 (Kd.R_reads' HO_4.out).2.2 x6_1 p111 q111
                          obtain rfl : ad106 = ad111 := (by injection e111)
                          replace p111 := eq_true p111
                          replace q111 := eq_true q111
                          have p112 : 0 ≤ (x6_1 : Int) := of_decide_eq_true (by first | (with_reducible assumption) | assumption)
                          have q112 : x6_1 < (t103.length : Int) := of_decide_eq_true (by first | (with_reducible assumption) | assumption)
                          obtain ⟨ad112, e112, hx112_0, hx112_1, hx112_2⟩ := at_T29 (Kd.R_reads' HO_4.out).2.2 x6_1 p112 q112
                          obtain rfl : ad106 = ad112 := (by injection e112)
                          replace p112 := eq_true p112
                          replace q112 := eq_true q112
                          go_wp2
                          repeat (go_quiet (fail); try go_wp2)
                          go_meet
                          case rel => exact ⟨_, (true), (by first | rfl | (simp; done) | (simp [*]; done)), H', ⟨by have := HK1.out; first | omega | exact Nat.le_refl _⟩, ⟨by (with_reducible repeat (first | apply Kd.R_alloc | apply Kd.R_drewN | apply Kd.R_drew)); exact HO_4.out⟩, ⟨by repeat (first | (with_reducible first | exact HB.out | apply below_alloc | apply pw_below_drewN | apply below_drew1) | exact HB.out)⟩⟩
                        · rw [if_neg c17] at H
                          have c17b0 : decide ((wrap64 (((rd_T29 t103 x6_1).f1) + 2)) < ((rd_T29 t103 x6_1).f2)) = false := decide_eq_false c17
                          clear c17
                          have H' := Aside0.mk H
                          clear H
                          have p106 : 0 ≤ (x6_1 : Int) := of_decide_eq_true (by first | (with_reducible assumption) | assumption)
                          have q106 : x6_1 < (t103.length : Int) := of_decide_eq_true (by first | (with_reducible assumption) | assumption)
                          obtain ⟨ad106, e106, hx106_0, hx106_1, hx106_2⟩ := at_T29 (Kd.R_reads' HO_4.out).2.2 x6_1 p106 q106
                          cases e106
                          replace p106 := eq_true p106
                          replace q106 := eq_true q106
                          have p107 : 0 ≤ (x6_1 : Int) := of_decide_eq_true (by first | (with_reducible assumption) | assumption)
                          have q107 : x6_1 < (t103.length : Int) := of_decide_eq_true (by first | (with_reducible assumption) | assumption)
                          obtain ⟨ad107, e107, hx107_0, hx107_1, hx107_2⟩ := at_T29 (Kd.R_reads' HO_4.out).2.2 x6_1 p107 q107
                          obtain rfl : ad106 = ad107 := (by injection e107)
                          replace p107 := eq_true p107
                          replace q107 := eq_true q107
                          have p108 : 0 ≤ (x6_1 : Int) := of_decide_eq_true (by first | (with_reducible assumption) | assumption)
                          have q108 : x6_1 < (t103.length : Int) := of_decide_eq_true (by first | (with_reducible assumption) | assumption)
                          obtain ⟨ad108, e108, hx108_0, hx108_1, hx108_2⟩ := at_T29 (Kd.R_reads' HO_4.out).2.2 x6_1 p108 q108
                          obtain rfl : ad106 = ad108 := (by injection e108)
                          replace p108 := eq_true p108
                          replace q108 := eq_true q108
                          have p109 : 0 ≤ (x6_1 : Int) := of_decide_eq_true (by first | (with_reducible assumption) | assumption)
                          have q109 : x6_1 < (t103.length : Int) := of_decide_eq_true (by first | (with_reducible assumption) | assumption)
                          obtain ⟨ad109, e109, hx109_0, hx109_1, hx109_2⟩ := at_T29 (Kd.R_reads' HO_4.out).2.2 x6_1 p109 q109
                          obtain rfl : ad106 = ad109 := (by injection e109)
                          replace p109 := eq_true p109
                          replace q109 := eq_true q109
                          have p110 : 0 ≤ (x6_1 : Int) := of_decide_eq_true (by first | (with_reducible assumption) | assumption)
                          have q110 : x6_1 < (t103.length : Int) := of_decide_eq_true (by first | (with_reducible assumption) | assumption)
                          obtain ⟨ad110, e110, hx110_0, hx110_1, hx110_2⟩ := at_T29 (Kd.R_reads' HO_4.out).2.2 x6_1 p110 q110
                          obtain rfl : ad106 = ad110 := (by injection e110)
                          replace p110 := eq_true p110
                          replace q110 := eq_true q110
                          have p111 : 0 ≤ (x6_1 : Int) := of_decide_eq_true (by first | (with_reducible assumption) | assumption)
                          have q111 : x6_1 < (t103.length : Int) := of_decide_eq_true (by first | (with_reducible assumption) | assumption)
                          obtain ⟨ad111, e111, hx111_0, hx111_1, hx111_2⟩ := at_T29 (Kd.R_reads' HO_4.out).2.2 x6_1 p111 q111
                          obtain rfl : ad106 = ad111 := (by injection e111)
                          replace p111 := eq_true p111
                          replace q111 := eq_true q111
                          have p112 : 0 ≤ (x6_1 : Int) := of_decide_eq_true (by first | (with_reducible assumption) | assumption)
                          have q112 : x6_1 < (t103.length : Int) := of_decide_eq_true (by first | (with_reducible assumption) | assumption)
                          obtain ⟨ad112, e112, hx112_0, hx112_1, hx112_2⟩ := at_T29 (Kd.R_reads' HO_4.out).2.2 x6_1 p112 q112
                          obtain rfl : ad106 = ad112 := (by injection e112)
                          replace p112 := eq_true p112
                          replace q112 := eq_true q112
                          have p113 : 0 ≤ (x6_1 : Int) := of_decide_eq_true (by first | (with_reducible assumption) | assumption)
                          have q113 : x6_1 < (t103.length : Int) := of_decide_eq_true (by first | (with_reducible assumption) | assumption)
                          obtain ⟨ad113, e113, hx113_0, hx113_1, hx113_2⟩ := at_T29 (Kd.R_reads' HO_4.out).2.2 x6_1 p113 q113
                          obtain rfl : ad106 = ad113 := (by injection e113)
                          replace p113 := eq_true p113
                          replace q113 := eq_true q113
                          go_wp2
                          repeat (go_quiet (fail); try go_wp2)
                          go_meet
                          case rel => exact ⟨_, (decide (((rd_T29 t103 x6_1).f2) > (l0.length : Int))), (by first | rfl | (simp; done) | (simp [*]; done)), H', ⟨by have := HK1.out; first | omega | exact Nat.le_refl _⟩, ⟨by (with_reducible repeat (first | apply Kd.R_alloc | apply Kd.R_drewN | apply Kd.R_drew)); exact HO_4.out⟩, ⟨by repeat (first | (with_reducible first | exact HB.out | apply below_alloc | apply pw_below_drewN | apply below_drew1) | exact HB.out)⟩⟩
                · rw [if_neg c13] at H
                  have c13b0 : (((rd_T29 t103 x6_1).f0) == x5_1) = false := beq_eq_false_iff_ne.mpr c13
                  have c13b1 : (((rd_T29 t103 x6_1).f0) != x5_1) = true := bne_iff_ne.mpr c13
                  have H' := Aside0.mk H
                  clear H
                  have p106 : 0 ≤ (x6_1 : Int) := of_decide_eq_true (by first | (with_reducible assumption) | assumption)
                  have q106 : x6_1 < (t103.length : Int) := of_decide_eq_true (by first | (with_reducible assumption) | assumption)
                  obtain ⟨ad106, e106, hx106_0, hx106_1, hx106_2⟩ := at_T29 (Kd.R_reads' HO_4.out).2.2 x6_1 p106 q106
                  cases e106
                  replace p106 := eq_true p106
                  replace q106 := eq_true q106
                  go_wp2
                  repeat (go_quiet (fail); try go_wp2)
                  go_meet
                  case rel => exact ⟨_, (true), (by first | rfl | (simp; done) | (simp [*]; done)), H', ⟨by have := HK1.out; first | omega | exact Nat.le_refl _⟩, ⟨by (with_reducible repeat (first | apply Kd.R_alloc | apply Kd.R_drewN | apply Kd.R_drew)); exact HO_4.out⟩, ⟨by repeat (first | (with_reducible first | exact HB.out | apply below_alloc | apply pw_below_drewN | apply below_drew1) | exact HB.out)⟩⟩
              · rw [if_neg c12] at H
                exact absurd H (by simp)
            case rest =>
              clear HC10
              try clear c1
              try clear p1
              try clear q1
              try clear hx1
              try clear p2
              try clear c3
              try clear c4
              try clear c4b0
              try clear c4b1
              try clear p6
              try clear c9
              try clear c9b0
              try clear p10
              try clear q10
              try clear hx10
              try clear p11
              try clear q11
              try clear hx11
              try clear c12
              try clear c12b0
              try clear c13
              try clear c13b0
              try clear c13b1
              try clear c14
              try clear c14b0
              try clear c15
              try clear c15b0
              try clear c16
              try clear c16b0
              try clear c17
              try clear c17b0
              try clear hx106_0
              try clear hx106_1
              try clear hx106_2
              try clear hx107_0
              try clear hx107_1
              try clear hx107_2
              try clear hx108_0
              try clear hx108_1
              try clear hx108_2
              try clear hx109_0
              try clear hx109_1
              try clear hx109_2
              try clear hx110_0
              try clear hx110_1
              try clear hx110_2
              try clear hx111_0
              try clear hx111_1
              try clear hx111_2
              try clear hx112_0
              try clear hx112_1
              try clear hx112_2
              try clear hx113_0
              try clear hx113_1
              try clear hx113_2
              try clear p106
              try clear p107
              try clear p108
              try clear p109
              try clear p110
              try clear p111
              try clear p112
              try clear p113
              try clear p2
              try clear q106
              try clear q107
              try clear q108
              try clear q109
              try clear q110
              try clear q111
              try clear q112
              try clear q113
              obtain ⟨kq, x86_9, rfl, HA, HJ9, HO_4, HB⟩ := hcut
              cases kq with
              | zero => exact absurd HA.out (by simp [letterboxlaw05_LinesAll.j1])
              | succ kj9 =>
                have H := HA.out
                clear HA
                simp only [letterboxlaw05_LinesAll.j1] at H
                by_cases c18 : x86_9 = true
                · subst c18
                  have H1 : (some false) = some r := by rw [if_pos rfl] at H; exact H
                  clear H
                  have H := H1
                  clear H1
                  obtain rfl := Option.some.inj H
                  go_wp2
                  repeat (go_quiet (fail); try go_wp2)
                  go_ret
                  exact ⟨by first | rfl | (simp [errW_none, errW_some] <;> rfl) | (simp [*, errW_none, errW_some] <;> rfl), by repeat (first | (with_reducible first | exact HB.out | apply below_alloc | apply pw_below_drewN | apply below_drew1) | exact HB.out)⟩
                · replace c18 := Bool.eq_false_iff.mpr c18
                  subst c18
                  have H1 : (if 0 ≤ x6_1 then (if x6_1 < (t103.length : Int) then (letterboxlaw05_LinesAll.l1 kj9 l0 t103 x6_1 ((rd_T29 t103 x6_1).f0)) else (none)) else (none)) = some r := by rw [if_neg (show ¬ (false = true) by decide)] at H; exact H
                  clear H
                  have H := H1
                  clear H1
                  by_cases c19 : 0 ≤ x6_1
                  · rw [if_pos c19] at H
                    have c19b0 : decide (0 ≤ x6_1) = true := decide_eq_true c19
                    clear c19
                    by_cases c20 : x6_1 < (t103.length : Int)
                    · rw [if_pos c20] at H
                      have c20b0 : decide (x6_1 < (t103.length : Int)) = true := decide_eq_true c20
                      clear c20
                      have H' := Aside0.mk H
                      clear H
                      have p114 : 0 ≤ (x6_1 : Int) := of_decide_eq_true (by first | (with_reducible assumption) | assumption)
                      have q114 : x6_1 < (t103.length : Int) := of_decide_eq_true (by first | (with_reducible assumption) | assumption)
                      obtain ⟨ad114, e114, hx114_0, hx114_1, hx114_2⟩ := at_T29 (Kd.R_reads' HO_4.out).2.2 x6_1 p114 q114
                      cases e114
                      replace p114 := eq_true p114
                      replace q114 := eq_true q114
                      go_wp2
                      repeat (go_quiet (fail); try go_wp2)
                      go_loopg [7] kj9 (fun kq v7 w' => ∃ (x7_3 : Int), v7 = .int .i64 x7_3 ∧ Aside0 (letterboxlaw05_LinesAll.l1 kq l0 t103 x6_1 x7_3 = some r) ∧ Aside0 (kq ≤ kj9) ∧ Aside0 (Kd.R k29 29 w' w.heap.size (fun _ => True) (.slice (some ad114) t103.length co11) t103) ∧ Aside0 (Below w.heap.size w w'))
                      case atStart => exact ⟨((rd_T29 t103 x6_1).f0), (by first | rfl | (simp; done) | (simp [*]; done)), H', ⟨Nat.le_refl _⟩, ⟨by (with_reducible repeat (first | apply Kd.R_alloc | apply Kd.R_drewN | apply Kd.R_drew)); exact HO_4.out⟩, ⟨by repeat (first | (with_reducible first | exact HB.out | apply below_alloc | apply pw_below_drewN | apply below_drew1) | exact HB.out)⟩⟩
                      case round =>
                        clear H'
                        try clear c1
                        try clear p1
                        try clear q1
                        try clear hx1
                        try clear c2
                        try clear p2
                        try clear c3
                        try clear c4
                        try clear c4b0
                        try clear c4b1
                        try clear p6
                        try clear c9
                        try clear c9b0
                        try clear p10
                        try clear q10
                        try clear hx10
                        try clear p11
                        try clear q11
                        try clear hx11
                        try clear c12
                        try clear c12b0
                        try clear c13
                        try clear c13b0
                        try clear c13b1
                        try clear c14
                        try clear c14b0
                        try clear c15
                        try clear c15b0
                        try clear c16
                        try clear c16b0
                        try clear c17
                        try clear c17b0
                        try clear c18
                        try clear c19
                        try clear c19b0
                        try clear c20
                        try clear c20b0
                        try clear hx106_0
                        try clear hx106_1
                        try clear hx106_2
                        try clear hx107_0
                        try clear hx107_1
                        try clear hx107_2
                        try clear hx108_0
                        try clear hx108_1
                        try clear hx108_2
                        try clear hx109_0
                        try clear hx109_1
                        try clear hx109_2
                        try clear hx110_0
                        try clear hx110_1
                        try clear hx110_2
                        try clear hx111_0
                        try clear hx111_1
                        try clear hx111_2
                        try clear hx112_0
                        try clear hx112_1
                        try clear hx112_2
                        try clear hx113_0
                        try clear hx113_1
                        try clear hx113_2
                        try clear hx114_0
                        try clear hx114_1
                        try clear hx114_2
                        try clear p1
                        try clear p10
                        try clear p106
                        try clear p107
                        try clear p108
                        try clear p109
                        try clear p11
                        try clear p110
                        try clear p111
                        try clear p112
                        try clear p113
                        try clear p114
                        try clear p2
                        try clear p6
                        try clear q1
                        try clear q10
                        try clear q106
                        try clear q107
                        try clear q108
                        try clear q109
                        try clear q11
                        try clear q110
                        try clear q111
                        try clear q112
                        try clear q113
                        try clear q114
                        obtain ⟨x7_3, rfl, HA, HK3, HO_4, HB⟩ := hrel
                        cases gk with
                        | zero => exact absurd HA.out (by simp [letterboxlaw05_LinesAll.l1])
                        | succ k3 =>
                          have H := HA.out
                          clear HA
                          simp only [letterboxlaw05_LinesAll.l1] at H
                          by_cases c21 : 0 ≤ x6_1
                          · rw [if_pos c21] at H
                            have c21b0 : decide (0 ≤ x6_1) = true := decide_eq_true c21
                            clear c21
                            by_cases c22 : x6_1 < (t103.length : Int)
                            · rw [if_pos c22] at H
                              have c22b0 : decide (x6_1 < (t103.length : Int)) = true := decide_eq_true c22
                              clear c22
                              by_cases c23 : x7_3 < ((rd_T29 t103 x6_1).f1)
                              · rw [if_pos c23] at H
                                have c23b0 : decide (x7_3 < ((rd_T29 t103 x6_1).f1)) = true := decide_eq_true c23
                                clear c23
                                by_cases c24 : 0 ≤ x7_3
                                · rw [if_pos c24] at H
                                  have c24b0 : decide (0 ≤ x7_3) = true := decide_eq_true c24
                                  clear c24
                                  by_cases c25 : x7_3 < (l0.length : Int)
                                  · rw [if_pos c25] at H
                                    have c25b0 : decide (x7_3 < (l0.length : Int)) = true := decide_eq_true c25
                                    clear c25
                                    by_cases c26 : (rd l0 x7_3) = 10
                                    · rw [if_pos c26] at H
                                      have c26b0 : ((rd l0 x7_3) == 10) = true := beq_iff_eq.mpr c26
                                      have c26b1 : ((rd l0 x7_3) != 10) = false := bne_eq_false_iff_eq.mpr c26
                                      clear c26
                                      obtain rfl := Option.some.inj H
                                      have p115 : 0 ≤ (x6_1 : Int) := of_decide_eq_true (by first | (with_reducible assumption) | assumption)
                                      have q115 : x6_1 < (t103.length : Int) := of_decide_eq_true (by first | (with_reducible assumption) | assumption)
                                      obtain ⟨ad115, e115, hx115_0, hx115_1, hx115_2⟩ := at_T29 (Kd.R_reads' HO_4.out).2.2 x6_1 p115 q115
                                      obtain rfl : ad114 = ad115 := (by injection e115)
                                      replace p115 := eq_true p115
                                      replace q115 := eq_true q115
                                      have p116 : 0 ≤ (x7_3 : Int) := of_decide_eq_true (by first | (with_reducible assumption) | assumption)
                                      have q116 : x7_3 < (l0.length : Int) := of_decide_eq_true (by first | (with_reducible assumption) | assumption)
                                      obtain ⟨ad116, e116, hx116_0⟩ := Kd.at_int HR0.out x7_3 p116 q116
                                      cases e116
                                      replace hx116_0 := (HB.out.cell (World.block_lt_of_cell? w _ hx116_0)).trans hx116_0
                                      replace p116 := eq_true p116
                                      replace q116 := eq_true q116
                                      go_wp2
                                      repeat (go_quiet (fail); try go_wp2)
                                      go_ret
                                      exact ⟨by first | rfl | (simp [errW_none, errW_some] <;> rfl) | (simp [*, errW_none, errW_some] <;> rfl), by repeat (first | (with_reducible first | exact HB.out | apply below_alloc | apply pw_below_drewN | apply below_drew1) | exact HB.out)⟩
                                    · rw [if_neg c26] at H
                                      have c26b0 : ((rd l0 x7_3) == 10) = false := beq_eq_false_iff_ne.mpr c26
                                      have c26b1 : ((rd l0 x7_3) != 10) = true := bne_iff_ne.mpr c26
                                      have H' := Aside0.mk H
                                      clear H
                                      have p115 : 0 ≤ (x6_1 : Int) := of_decide_eq_true (by first | (with_reducible assumption) | assumption)
                                      have q115 : x6_1 < (t103.length : Int) := of_decide_eq_true (by first | (with_reducible assumption) | assumption)
                                      obtain ⟨ad115, e115, hx115_0, hx115_1, hx115_2⟩ := at_T29 (Kd.R_reads' HO_4.out).2.2 x6_1 p115 q115
                                      obtain rfl : ad114 = ad115 := (by injection e115)
                                      replace p115 := eq_true p115
                                      replace q115 := eq_true q115
                                      have p116 : 0 ≤ (x7_3 : Int) := of_decide_eq_true (by first | (with_reducible assumption) | assumption)
                                      have q116 : x7_3 < (l0.length : Int) := of_decide_eq_true (by first | (with_reducible assumption) | assumption)
                                      obtain ⟨ad116, e116, hx116_0⟩ := Kd.at_int HR0.out x7_3 p116 q116
                                      cases e116
                                      replace hx116_0 := (HB.out.cell (World.block_lt_of_cell? w _ hx116_0)).trans hx116_0
                                      replace p116 := eq_true p116
                                      replace q116 := eq_true q116
                                      go_wp2
                                      repeat (go_quiet (fail); try go_wp2)
                                      go_roundg k3
                                      case measure => have := HK1.out; have := HJ9.out; have := HK3.out; omega
                                      case rel => exact ⟨(wrap64 (x7_3 + 1)), (by first | rfl | (simp; done) | (simp [*]; done)), H', ⟨by have := HK1.out; have := HJ9.out; have := HK3.out; omega⟩, ⟨by (with_reducible repeat (first | apply Kd.R_alloc | apply Kd.R_drewN | apply Kd.R_drew)); exact HO_4.out⟩, ⟨by repeat (first | (with_reducible first | exact HB.out | apply below_alloc | apply pw_below_drewN | apply below_drew1) | exact HB.out)⟩⟩
                                  · rw [if_neg c25] at H
                                    exact absurd H (by simp)
                                · rw [if_neg c24] at H
                                  exact absurd H (by simp)
                              · rw [if_neg c23] at H
                                have c23b0 : decide (x7_3 < ((rd_T29 t103 x6_1).f1)) = false := decide_eq_false c23
                                clear c23
                                by_cases c27 : x6_1 < (wrap64 ((t103.length : Int) - 1))
                                · rw [if_pos c27] at H
                                  have c27b0 : decide (x6_1 < (wrap64 ((t103.length : Int) - 1))) = true := decide_eq_true c27
                                  clear c27
                                  obtain ⟨ji28, hji28⟩ : ∃ j_ : Int, (wrap64 (((rd_T29 t103 x6_1).f2) - 1)) = j_ := ⟨_, rfl⟩
                                  replace H : (if 0 ≤ (ji28) then (if (ji28) < (l0.length : Int) then (if (rd l0 (ji28)) = 10 then (letterboxlaw05_LinesAll.l0 k3 l0 t103 ((rd_T29 t103 x6_1).f2) (wrap64 (x6_1 + 1))) else (some false)) else (none)) else (none)) = some r := by first | (rw [hji28] at H; exact H) | (simp only [hji28] at H ⊢; exact H)
                                  have hji28w : (IntKind.i64.wrap (((rd_T29 t103 x6_1).f2) - 1)) = ji28 := (i64_w _).trans hji28
                                  by_cases c29 : 0 ≤ (ji28)
                                  · rw [if_pos c29] at H
                                    have c29b0 : decide (0 ≤ (ji28)) = true := decide_eq_true c29
                                    clear c29
                                    by_cases c30 : (ji28) < (l0.length : Int)
                                    · rw [if_pos c30] at H
                                      have c30b0 : decide ((ji28) < (l0.length : Int)) = true := decide_eq_true c30
                                      clear c30
                                      by_cases c31 : (rd l0 (ji28)) = 10
                                      · rw [if_pos c31] at H
                                        have c31b0 : ((rd l0 (ji28)) == 10) = true := beq_iff_eq.mpr c31
                                        have c31b1 : ((rd l0 (ji28)) != 10) = false := bne_eq_false_iff_eq.mpr c31
                                        clear c31
                                        have H' := Aside0.mk H
                                        clear H
                                        have p115 : 0 ≤ (x6_1 : Int) := of_decide_eq_true (by first | (with_reducible assumption) | assumption)
                                        have q115 : x6_1 < (t103.length : Int) := of_decide_eq_true (by first | (with_reducible assumption) | assumption)
                                        obtain ⟨ad115, e115, hx115_0, hx115_1, hx115_2⟩ := at_T29 (Kd.R_reads' HO_4.out).2.2 x6_1 p115 q115
                                        obtain rfl : ad114 = ad115 := (by injection e115)
                                        replace p115 := eq_true p115
                                        replace q115 := eq_true q115
                                        have p117 : 0 ≤ (x6_1 : Int) := of_decide_eq_true (by first | (with_reducible assumption) | assumption)
                                        have q117 : x6_1 < (t103.length : Int) := of_decide_eq_true (by first | (with_reducible assumption) | assumption)
                                        obtain ⟨ad117, e117, hx117_0, hx117_1, hx117_2⟩ := at_T29 (Kd.R_reads' HO_4.out).2.2 x6_1 p117 q117
                                        obtain rfl : ad114 = ad117 := (by injection e117)
                                        replace p117 := eq_true p117
                                        replace q117 := eq_true q117
                                        have p118 : 0 ≤ ((ji28) : Int) := of_decide_eq_true (by first | (with_reducible assumption) | assumption)
                                        have q118 : (ji28) < (l0.length : Int) := of_decide_eq_true (by first | (with_reducible assumption) | assumption)
                                        obtain ⟨ad118, e118, hx118_0⟩ := Kd.at_int HR0.out (ji28) p118 q118
                                        cases e118
                                        replace hx118_0 := (HB.out.cell (World.block_lt_of_cell? w _ hx118_0)).trans hx118_0
                                        replace p118 := eq_true p118
                                        replace q118 := eq_true q118
                                        have p119 : 0 ≤ (x6_1 : Int) := of_decide_eq_true (by first | (with_reducible assumption) | assumption)
                                        have q119 : x6_1 < (t103.length : Int) := of_decide_eq_true (by first | (with_reducible assumption) | assumption)
                                        obtain ⟨ad119, e119, hx119_0, hx119_1, hx119_2⟩ := at_T29 (Kd.R_reads' HO_4.out).2.2 x6_1 p119 q119
                                        obtain rfl : ad114 = ad119 := (by injection e119)
                                        replace p119 := eq_true p119
                                        replace q119 := eq_true q119
                                        go_wp2
                                        repeat (go_quiet (fail); try go_wp2)
                                        go_roundg k3
                                        case measure => have := HK1.out; have := HJ9.out; have := HK3.out; omega
                                        case rel => exact ⟨((rd_T29 t103 x6_1).f2), (wrap64 (x6_1 + 1)), (by first | rfl | (simp; done) | (simp [*]; done)), (by first | rfl | (simp; done) | (simp [*]; done)), H', ⟨by have := HK1.out; have := HJ9.out; have := HK3.out; omega⟩, ⟨by (with_reducible repeat (first | apply Kd.R_alloc | apply Kd.R_drewN | apply Kd.R_drew)); exact HO_4.out⟩, ⟨by repeat (first | (with_reducible first | exact HB.out | apply below_alloc | apply pw_below_drewN | apply below_drew1) | exact HB.out)⟩⟩
                                      · rw [if_neg c31] at H
                                        have c31b0 : ((rd l0 (ji28)) == 10) = false := beq_eq_false_iff_ne.mpr c31
                                        have c31b1 : ((rd l0 (ji28)) != 10) = true := bne_iff_ne.mpr c31
                                        obtain rfl := Option.some.inj H
                                        have p115 : 0 ≤ (x6_1 : Int) := of_decide_eq_true (by first | (with_reducible assumption) | assumption)
                                        have q115 : x6_1 < (t103.length : Int) := of_decide_eq_true (by first | (with_reducible assumption) | assumption)
                                        obtain ⟨ad115, e115, hx115_0, hx115_1, hx115_2⟩ := at_T29 (Kd.R_reads' HO_4.out).2.2 x6_1 p115 q115
                                        obtain rfl : ad114 = ad115 := (by injection e115)
                                        replace p115 := eq_true p115
                                        replace q115 := eq_true q115
                                        have p117 : 0 ≤ (x6_1 : Int) := of_decide_eq_true (by first | (with_reducible assumption) | assumption)
                                        have q117 : x6_1 < (t103.length : Int) := of_decide_eq_true (by first | (with_reducible assumption) | assumption)
                                        obtain ⟨ad117, e117, hx117_0, hx117_1, hx117_2⟩ := at_T29 (Kd.R_reads' HO_4.out).2.2 x6_1 p117 q117
                                        obtain rfl : ad114 = ad117 := (by injection e117)
                                        replace p117 := eq_true p117
                                        replace q117 := eq_true q117
                                        have p118 : 0 ≤ ((ji28) : Int) := of_decide_eq_true (by first | (with_reducible assumption) | assumption)
                                        have q118 : (ji28) < (l0.length : Int) := of_decide_eq_true (by first | (with_reducible assumption) | assumption)
                                        obtain ⟨ad118, e118, hx118_0⟩ := Kd.at_int HR0.out (ji28) p118 q118
                                        cases e118
                                        replace hx118_0 := (HB.out.cell (World.block_lt_of_cell? w _ hx118_0)).trans hx118_0
                                        replace p118 := eq_true p118
                                        replace q118 := eq_true q118
                                        go_wp2
                                        repeat (go_quiet (fail); try go_wp2)
                                        go_ret
                                        exact ⟨by first | rfl | (simp [errW_none, errW_some] <;> rfl) | (simp only [← hji28]; first | rfl | (simp [errW_none, errW_some] <;> rfl)) | (simp [*, errW_none, errW_some] <;> rfl), by repeat (first | (with_reducible first | exact HB.out | apply below_alloc | apply pw_below_drewN | apply below_drew1) | exact HB.out)⟩
                                    · rw [if_neg c30] at H
                                      exact absurd H (by simp)
                                  · rw [if_neg c29] at H
                                    exact absurd H (by simp)
                                · rw [if_neg c27] at H
                                  have c27b0 : decide (x6_1 < (wrap64 ((t103.length : Int) - 1))) = false := decide_eq_false c27
                                  clear c27
                                  have H' := Aside0.mk H
                                  clear H
                                  have p115 : 0 ≤ (x6_1 : Int) := of_decide_eq_true (by first | (with_reducible assumption) | assumption)
                                  have q115 : x6_1 < (t103.length : Int) := of_decide_eq_true (by first | (with_reducible assumption) | assumption)
                                  obtain ⟨ad115, e115, hx115_0, hx115_1, hx115_2⟩ := at_T29 (Kd.R_reads' HO_4.out).2.2 x6_1 p115 q115
                                  obtain rfl : ad114 = ad115 := (by injection e115)
                                  replace p115 := eq_true p115
                                  replace q115 := eq_true q115
                                  have p120 : 0 ≤ (x6_1 : Int) := of_decide_eq_true (by first | (with_reducible assumption) | assumption)
                                  have q120 : x6_1 < (t103.length : Int) := of_decide_eq_true (by first | (with_reducible assumption) | assumption)
                                  obtain ⟨ad120, e120, hx120_0, hx120_1, hx120_2⟩ := at_T29 (Kd.R_reads' HO_4.out).2.2 x6_1 p120 q120
                                  obtain rfl : ad114 = ad120 := (by injection e120)
                                  replace p120 := eq_true p120
                                  replace q120 := eq_true q120
                                  go_wp2
                                  repeat (go_quiet (fail); try go_wp2)
                                  go_roundg k3
                                  case measure => have := HK1.out; have := HJ9.out; have := HK3.out; omega
                                  case rel => exact ⟨((rd_T29 t103 x6_1).f2), (wrap64 (x6_1 + 1)), (by first | rfl | (simp; done) | (simp [*]; done)), (by first | rfl | (simp; done) | (simp [*]; done)), H', ⟨by have := HK1.out; have := HJ9.out; have := HK3.out; omega⟩, ⟨by (with_reducible repeat (first | apply Kd.R_alloc | apply Kd.R_drewN | apply Kd.R_drew)); exact HO_4.out⟩, ⟨by repeat (first | (with_reducible first | exact HB.out | apply below_alloc | apply pw_below_drewN | apply below_drew1) | exact HB.out)⟩⟩
                            · rw [if_neg c22] at H
                              exact absurd H (by simp)
                          · rw [if_neg c21] at H
                            exact absurd H (by simp)
                    · rw [if_neg c20] at H
                      exact absurd H (by simp)
                  · rw [if_neg c19] at H
                    exact absurd H (by simp)
          · rw [if_neg c9] at H
            have c9b0 : decide (x6_1 < (t103.length : Int)) = false := decide_eq_false c9
            clear c9
            obtain rfl := Option.some.inj H
            obtain ⟨Ao32, co32, eo32⟩ := Kd.R_slice HO_4.out
            subst eo32
            go_wp2
            repeat (go_quiet (fail); try go_wp2)
            go_ret
            exact ⟨by first | rfl | (simp [errW_none, errW_some] <;> rfl) | (simp [*, errW_none, errW_some] <;> rfl), by repeat (first | (with_reducible first | exact HB.out | apply below_alloc | apply pw_below_drewN | apply below_drew1) | exact HB.out)⟩
  · replace c3 := Bool.eq_false_iff.mpr c3
    subst c3
    have H1 : (some false) = some r := by rw [if_neg (show ¬ (false = true) by decide)] at H; exact H
    clear H
    have H := H1
    clear H1
    obtain rfl := Option.some.inj H
    go_enter Try.func3, Try.ntmps3
    go_wp2_with (first | (go_at_call 7; (with_reducible refine (letterboxlaw05_awake.calls  false _ A2.out).mono ?_); rintro e w33 ⟨rfl, hb⟩; have n0_ := Aside0.mk (below_step (by repeat (first | (with_reducible first | exact HB.out | apply below_alloc | apply pw_below_drewN | apply below_drew1) | exact HB.out)) hb); clear HB; have HB := n0_; clear n0_; (try clear hb); (try clear hb2); (try clear hk); (try clear hi)))
    repeat (go_quiet (first | (go_at_call 7; (with_reducible refine (letterboxlaw05_awake.calls  false _ A2.out).mono ?_); rintro e w33 ⟨rfl, hb⟩; have n0_ := Aside0.mk (below_step (by repeat (first | (with_reducible first | exact HB.out | apply below_alloc | apply pw_below_drewN | apply below_drew1) | exact HB.out)) hb); clear HB; have HB := n0_; clear n0_; (try clear hb); (try clear hb2); (try clear hk); (try clear hi))); try go_wp2_with (first | (go_at_call 7; (with_reducible refine (letterboxlaw05_awake.calls  false _ A2.out).mono ?_); rintro e w33 ⟨rfl, hb⟩; have n0_ := Aside0.mk (below_step (by repeat (first | (with_reducible first | exact HB.out | apply below_alloc | apply pw_below_drewN | apply below_drew1) | exact HB.out)) hb); clear HB; have HB := n0_; clear n0_; (try clear hb); (try clear hb2); (try clear hk); (try clear hi))))
    go_ret
    exact ⟨by first | rfl | (simp [errW_none, errW_some] <;> rfl) | (simp [*, errW_none, errW_some] <;> rfl), by repeat (first | (with_reducible first | exact HB.out | apply below_alloc | apply pw_below_drewN | apply below_drew1) | exact HB.out)⟩

/-- THE ONE PURE STATEMENT of letterboxlaw05_LinesAll: yours. -/
def letterboxlaw05_LinesAll.Pure : Prop := ∀ (l0 : List Int), l0.length ≤ maxLen → l0.length * 1 ≤ 140737488351232 → (∀ x ∈ l0, (Lit.int .u8 x).wf = true) → ∃ k, letterboxlaw05_LinesAll.f k l0 = some true
theorem letterboxlaw05_LinesAll.walk (P : letterboxlaw05_LinesAll.Pure) (a0 : Option Addr) (len0 cap0 : Nat) (z0 : List Int) (w : World) (w0 : (a0 = none ∧ len0 = 0 ∧ cap0 = 0 ∧ z0 = []) ∨ ∃ x, a0 = some x ∧ len0 ≤ cap0 ∧ cap0 ≤ maxLen ∧ z0.length = cap0 ∧ (∀ i, i < z0.length → w.cell? (x.add i) = some (.int .u8 (z0.getD i 0))) ∧ ∀ n ∈ z0, (Lit.int .u8 n).wf = true) (y0 : len0 * 1 ≤ 140737488351232) :
    Calls Try.prog 3 #[.slice a0 len0 cap0] w fun e w' => e = .returned (.bool true) ∧ Below w.heap.size w w' := by
  obtain ⟨l0, rfl, hr0, hm0, hw0, hc0⟩ := ReadsInt.ofRowC w0
  obtain ⟨k, h⟩ := P l0 hm0 y0 hw0
  refine (letterboxlaw05_LinesAll.calls k _ _ l0 true w (Kd.C_of_reads (d := (0 : Int)) (h1 := fun _ => rfl) hr0) hc0 h).mono ?_
  rintro e w' ⟨rfl, hd⟩
  exact ⟨rfl, hd⟩

end Go.Proofs.Ytfpdamppppbkiaa.P
