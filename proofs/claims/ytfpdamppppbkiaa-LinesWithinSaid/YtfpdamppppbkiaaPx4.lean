-- Written by a program of this session (wip/tools/mk.sh) for this claim: it runs the kit's print with contracts of our own. Lean checks it.
import Derived.Test.YtfpdamppppbkiaaPx0
import Derived.Test.YtfpdamppppbkiaaPx1
namespace Go.Proofs.Ytfpdamppppbkiaa.P
open Go.RowKit Go.Proofs.YtfpdamppppbkiaaW.PrintWords Go.Proofs.YtfpdamppppbkiaaW.PrintLast Go.Proofs.YtfpdamppppbkiaaW.PrintMore
attribute [-simp] Int.tmod_tmod_of_dvd
attribute [local go_sem] max2_int min2_int max_two min_two max_three min_three max_four min_four   -- for this text's walks alone
set_option linter.unusedVariables false
set_option linter.unusedSimpArgs false

/-! ### lines_Count: function 11 -/
def lines_Count.f (l0 : List Int) (a1_0 : Int) (a1_1 : Int) : Option Int := if l0.length ≤ 100000 then some (if 0 ≤ a1_0 ∧ a1_0 ≤ a1_1 ∧ a1_1 ≤ (l0.length : Int) then ((ln_from l0 a1_1.toNat a1_0.toNat).length : Int) else 0) else none
theorem lines_Count.calls (A0 : Option Addr) (c0 : Nat) (l0 : List Int) (a1_0 : Int) (a1_1 : Int) (r : Int) (w : World) (hr0 : Kd.C (Kd.int .u8) w A0 l0.length l0) (hc0 : l0.length ≤ c0) (h : lines_Count.f l0 a1_0 a1_1 = some r) :
    Calls Try.prog 11 #[.slice A0 l0.length c0, .agg #[.int .i64 a1_0, .int .i64 a1_1]] w fun e w' => e = .returned (.int .i64 r) ∧ Below w.heap.size w w' := by
  unfold lines_Count.f at h
  by_cases hl : l0.length ≤ 100000
  · rw [if_pos hl] at h
    obtain rfl := Option.some.inj h
    exact callsIn_wide.1 (ln_Count Fence.wide 7 trivial trivial trivial trivial trivial rfl (Nat.le_refl _) A0 c0 l0 a1_0 a1_1 hl hc0 w hr0)
  · rw [if_neg hl] at h
    exact absurd h (by simp)

/-! ### letterboxlaw05_LinesWithin: function 6 -/
mutual
def letterboxlaw05_LinesWithin.j0 : Nat → List Int → Int → Int → Bool → Int → Int → Option (Bool)
  | 0, _, _, _, _, _, _ => none
  | k + 1, x0, x1, x2, x9, x150000, x150001 => (lines_Within.f x150000 x150001 (x0.length : Int)).bind fun t150 => (if (t150 != x9) = true then (some false) else (if x9 = true then (letterboxlaw05_LinesWithin.l0 k x0 x1 x2 0 x1 x150000 x150001) else ((lines_Count.f x0 x150000 x150001).bind fun t151 => (if t151 = 0 then ((lines_Of.f x0 x150000 x150001).bind fun t152 => (if (t152.length : Int) = 0 then ((lines_Text.f x0 x1 x2 0).bind fun t155 => (some (t155.toList == ([] : List UInt8)))) else (some false))) else (some false)))))
def letterboxlaw05_LinesWithin.l0 : Nat → List Int → Int → Int → Int → Int → Int → Int → Option (Bool)
  | 0, _, _, _, _, _, _, _ => none
  | k + 1, x0, x1, x2, x10, x11, x150000, x150001 => if x11 < x2 then (if 0 ≤ x11 then (if x11 < (x0.length : Int) then (if (rd x0 x11) = 10 then (letterboxlaw05_LinesWithin.l0 k x0 x1 x2 (wrap64 (x10 + 1)) (wrap64 (x11 + 1)) x150000 x150001) else (letterboxlaw05_LinesWithin.l0 k x0 x1 x2 x10 (wrap64 (x11 + 1)) x150000 x150001)) else (none)) else (none)) else (if x2 > x1 then (if 0 ≤ (wrap64 (x2 - 1)) then (if (wrap64 (x2 - 1)) < (x0.length : Int) then (if (rd x0 (wrap64 (x2 - 1))) = 10 then ((lines_Count.f x0 x150000 x150001).bind fun t158 => (some (t158 == x10))) else ((lines_Count.f x0 x150000 x150001).bind fun t159 => (some (t159 == (wrap64 (x10 + 1)))))) else (none)) else (none)) else ((lines_Count.f x0 x150000 x150001).bind fun t160 => (some (t160 == x10))))
end
def letterboxlaw05_LinesWithin.f (k : Nat) (l0 : List Int) (a1 : Int) (a2 : Int) : Option (Bool) := (letterboxlaw05_awake.f).bind fun t148 => (if t148 = true then (if (l0.length : Int) > 300 then (some true) else (if 0 ≤ a1 then (if a1 ≤ a2 then (letterboxlaw05_LinesWithin.j0 k l0 a1 a2 (decide (a2 ≤ (l0.length : Int))) a1 a2) else (letterboxlaw05_LinesWithin.j0 k l0 a1 a2 false a1 a2)) else (letterboxlaw05_LinesWithin.j0 k l0 a1 a2 false a1 a2))) else (some false))
theorem letterboxlaw05_LinesWithin.mono_l : ∀ k, (∀ y0 y1 y2 y3 y4 y5, LeO (letterboxlaw05_LinesWithin.j0 k y0 y1 y2 y3 y4 y5) (letterboxlaw05_LinesWithin.j0 (k + 1) y0 y1 y2 y3 y4 y5)) ∧ (∀ y0 y1 y2 y3 y4 y5 y6, LeO (letterboxlaw05_LinesWithin.l0 k y0 y1 y2 y3 y4 y5 y6) (letterboxlaw05_LinesWithin.l0 (k + 1) y0 y1 y2 y3 y4 y5 y6))
  | 0 => ⟨fun _ _ _ _ _ _ r h => by simp [letterboxlaw05_LinesWithin.j0] at h, fun _ _ _ _ _ _ _ r h => by simp [letterboxlaw05_LinesWithin.l0] at h⟩
  | k + 1 => by
    obtain ⟨ih0, ih1⟩ := letterboxlaw05_LinesWithin.mono_l k
    refine ⟨?_, ?_⟩
    · intro y0 y1 y2 y3 y4 y5
      unfold letterboxlaw05_LinesWithin.j0
      repeat' first
      | (with_reducible exact ih0 _ _ _ _ _ _)
      | (with_reducible exact ih1 _ _ _ _ _ _ _)
      | (with_reducible exact LeO.refl _)
      | (with_reducible exact LeO.none _)
      | (with_reducible refine LeO.ite ?_ ?_)
      | (with_reducible refine LeO.bind ?_ (fun _ => ?_))
      | exact ih0 _ _ _ _ _ _
      | exact ih1 _ _ _ _ _ _ _
      | exact LeO.none _
      | refine LeO.ite ?_ ?_
      | refine LeO.bind ?_ (fun _ => ?_)
    · intro y0 y1 y2 y3 y4 y5 y6
      unfold letterboxlaw05_LinesWithin.l0
      repeat' first
      | (with_reducible exact ih0 _ _ _ _ _ _)
      | (with_reducible exact ih1 _ _ _ _ _ _ _)
      | (with_reducible exact LeO.refl _)
      | (with_reducible exact LeO.none _)
      | (with_reducible refine LeO.ite ?_ ?_)
      | (with_reducible refine LeO.bind ?_ (fun _ => ?_))
      | exact ih0 _ _ _ _ _ _
      | exact ih1 _ _ _ _ _ _ _
      | exact LeO.none _
      | refine LeO.ite ?_ ?_
      | refine LeO.bind ?_ (fun _ => ?_)
theorem letterboxlaw05_LinesWithin.mono : ∀ a0 a1 a2 k, LeO (letterboxlaw05_LinesWithin.f k a0 a1 a2) (letterboxlaw05_LinesWithin.f (k + 1) a0 a1 a2) := by
  intro a0 a1 a2 k
  obtain ⟨ih0, ih1⟩ := letterboxlaw05_LinesWithin.mono_l k
  unfold letterboxlaw05_LinesWithin.f
  repeat' first
      | (with_reducible exact ih0 _ _ _ _ _ _)
      | (with_reducible exact ih1 _ _ _ _ _ _ _)
      | (with_reducible exact LeO.refl _)
      | (with_reducible exact LeO.none _)
      | (with_reducible refine LeO.ite ?_ ?_)
      | (with_reducible refine LeO.bind ?_ (fun _ => ?_))
      | exact ih0 _ _ _ _ _ _
      | exact ih1 _ _ _ _ _ _ _
      | exact LeO.none _
      | refine LeO.ite ?_ ?_
      | refine LeO.bind ?_ (fun _ => ?_)
set_option maxHeartbeats 8000000 in
set_option maxRecDepth 100000 in
theorem letterboxlaw05_LinesWithin.calls (k : Nat) (A0 : Option Addr) (c0 : Nat) (l0 : List Int) (a1 : Int) (a2 : Int) (r : Bool) (w : World) (hr0 : Kd.C (Kd.int .u8) w A0 l0.length l0) (hc0 : l0.length ≤ c0) (h : letterboxlaw05_LinesWithin.f k l0 a1 a2 = some r) :
    Calls Try.prog 6 #[.slice A0 l0.length c0, .int .i64 a1, .int .i64 a2] w fun e w' => e = .returned (.bool r) ∧ Below w.heap.size w w' := by
  have hu27 := Try.underlying27
  have hu29 := Try.underlying29
  have HR0 := Aside0.mk hr0
  have HC0 := Aside0.mk hc0
  clear hr0 hc0
  have HB := Aside0.mk (Below.refl w.heap.size w)
  have H : ((letterboxlaw05_awake.f).bind fun t148 => (if t148 = true then (if (l0.length : Int) > 300 then (some true) else (if 0 ≤ a1 then (if a1 ≤ a2 then (letterboxlaw05_LinesWithin.j0 k l0 a1 a2 (decide (a2 ≤ (l0.length : Int))) a1 a2) else (letterboxlaw05_LinesWithin.j0 k l0 a1 a2 false a1 a2)) else (letterboxlaw05_LinesWithin.j0 k l0 a1 a2 false a1 a2))) else (some false))) = some r := h
  clear h
  replace H := Option.bind_eq_some_iff.mp H
  obtain ⟨t148, A40, H⟩ := H
  replace H : (if t148 = true then (if (l0.length : Int) > 300 then (some true) else (if 0 ≤ a1 then (if a1 ≤ a2 then (letterboxlaw05_LinesWithin.j0 k l0 a1 a2 (decide (a2 ≤ (l0.length : Int))) a1 a2) else (letterboxlaw05_LinesWithin.j0 k l0 a1 a2 false a1 a2)) else (letterboxlaw05_LinesWithin.j0 k l0 a1 a2 false a1 a2))) else (some false)) = some r := H
  have A4 := Aside0.mk A40
  clear A40
  by_cases c5 : t148 = true
  · subst c5
    have H1 : (if (l0.length : Int) > 300 then (some true) else (if 0 ≤ a1 then (if a1 ≤ a2 then (letterboxlaw05_LinesWithin.j0 k l0 a1 a2 (decide (a2 ≤ (l0.length : Int))) a1 a2) else (letterboxlaw05_LinesWithin.j0 k l0 a1 a2 false a1 a2)) else (letterboxlaw05_LinesWithin.j0 k l0 a1 a2 false a1 a2))) = some r := by rw [if_pos rfl] at H; exact H
    clear H
    have H := H1
    clear H1
    by_cases c6 : (l0.length : Int) > 300
    · rw [if_pos c6] at H
      have c6b0 : decide (300 < (l0.length : Int)) = true := decide_eq_true c6
      have c6b1 : decide (300 < l0.length) = true := decide_eq_true (by omega)
      clear c6
      obtain rfl := Option.some.inj H
      go_enter Try.func6, Try.ntmps6
      go_wp2_with (first | ((with_reducible refine gate_callee (f := 7) rfl ?_); refine goesL_ (some 12) rfl rfl Try.func7 (by kernel_rfl) rfl #[] rfl (by (try simp only [List.map_toArray, List.map_cons, List.map_nil]); first | done | rfl | (simp only [List.length_drop, List.length_take]; rfl)) ?_; (with_reducible refine (letterboxlaw05_awake.calls  true _ A4.out).mono ?_); rintro e w7 ⟨rfl, hb⟩; refine ⟨_, rfl, ?_⟩; have n0_ := Aside0.mk (below_step (by repeat (first | (with_reducible first | exact HB.out | apply below_alloc | apply pw_below_drewN | apply below_drew1) | exact HB.out)) hb); clear HB; have HB := n0_; clear n0_; (try clear hb); (try clear hb2); (try clear hk); (try clear hi)))
      go_ret
      exact ⟨by first | rfl | (simp [errW_none, errW_some] <;> rfl) | (simp [*, errW_none, errW_some] <;> rfl), by repeat (first | (with_reducible first | exact HB.out | apply below_alloc | apply pw_below_drewN | apply below_drew1) | exact HB.out)⟩
    · rw [if_neg c6] at H
      have c6b0 : decide (300 < (l0.length : Int)) = false := decide_eq_false c6
      have c6b1 : decide (300 < l0.length) = false := decide_eq_false (by omega)
      clear c6
      have HC8 := Aside0.mk H
      clear H
      go_enter Try.func6, Try.ntmps6
      go_upto_region 7 with (first | ((with_reducible refine gate_callee (f := 7) rfl ?_); refine goesL_ (some 12) rfl rfl Try.func7 (by kernel_rfl) rfl #[] rfl (by (try simp only [List.map_toArray, List.map_cons, List.map_nil]); first | done | rfl | (simp only [List.length_drop, List.length_take]; rfl)) ?_; (with_reducible refine (letterboxlaw05_awake.calls  true _ A4.out).mono ?_); rintro e w9 ⟨rfl, hb⟩; refine ⟨_, rfl, ?_⟩; have n0_ := Aside0.mk (below_step (by repeat (first | (with_reducible first | exact HB.out | apply below_alloc | apply pw_below_drewN | apply below_drew1) | exact HB.out)) hb); clear HB; have HB := n0_; clear n0_; (try clear hb); (try clear hb2); (try clear hk); (try clear hi)) | ((with_reducible refine gate_dst (N := 8) rfl ?_); (try (refine gate_guard (by rfl) ?_; dsimp only)); refine box_event ?hg (N := 8) ?hd (cs := #[.int .i64 0, .int .i64 0]) (t := 27) ?hr ?_; (case hd => rfl); (case hg => rfl); (case hr => first | (go_simp; done) | (go_simp; rfl)); intro gb149 hg w10 hbox hb; have n0_ := Aside0.mk (below_step (by repeat (first | (with_reducible first | exact HB.out | apply below_alloc | apply pw_below_drewN | apply below_drew1) | exact HB.out)) hb); have n1_ := Aside0.mk (hbox); have n2_ := Aside0.mk ((by rw [hg]; exact (below_size (by repeat (first | (with_reducible first | exact HB.out | apply below_alloc | apply pw_below_drewN | apply below_drew1) | exact HB.out))) : w.heap.size ≤ gb149)); have n3_ := Aside0.mk ((by rw [hg]; exact (below_size (by repeat (first | (with_reducible first | exact HB.out | apply below_alloc | apply pw_below_drewN | apply below_drew1) | exact HB.out))) : w.heap.size ≤ gb149)); clear HB; have HB := n0_; have BK149 := n1_; have GW149 := n2_; have GE149 := n3_; clear n0_ n1_ n2_ n3_; clear hb hbox hg; have hcz11_0 : w10.cell? ⟨gb149, 0, none⟩ = some (.int .i64 0) := (blk_cell BK149.out 0).trans rfl; have hcz11_1 : w10.cell? ⟨gb149, 1, none⟩ = some (.int .i64 0) := (blk_cell BK149.out 1).trans rfl; have hfz11_0 := blk_frozen BK149.out 0; have hfz11_1 := blk_frozen BK149.out 1))
      (try simp only [Act.put, List.setIfInBounds_toArray, List.set_cons_zero, List.set_cons_succ])
      go_cut [9] (fun v9 wc => ∃ (kq : Nat) (x9_7 : Bool), v9 = .bool x9_7 ∧ Aside0 (letterboxlaw05_LinesWithin.j0 kq l0 a1 a2 x9_7 a1 a2 = some r) ∧ Aside0 (kq ≤ k) ∧ Aside0 (wc.heap[gb149]? = some (.cells #[.int .i64 a1, .int .i64 a2] 27 (0, 0))) ∧ Aside0 (Below w.heap.size w wc))
      case first =>
        have H := HC8.out
        clear HC8
        by_cases c12 : 0 ≤ a1
        · rw [if_pos c12] at H
          have c12b0 : decide (0 ≤ a1) = true := decide_eq_true c12
          clear c12
          (first | rw [c12b0] | (simp only [i64_w, i32_w]; rw [c12b0]) | skip)
          by_cases c13 : a1 ≤ a2
          · rw [if_pos c13] at H
            have c13b0 : decide (a1 ≤ a2) = true := decide_eq_true c13
            clear c13
            have H' := Aside0.mk H
            clear H
            go_wp2
            go_meet
            case rel => exact ⟨_, (decide (a2 ≤ (l0.length : Int))), (by first | rfl | (simp; done) | (simp [*]; done)), H', ⟨by first | omega | exact Nat.le_refl _⟩, ⟨by (with_reducible repeat (first | refine blk_drewN ?_ _ | refine blk_drew ?_ | refine blk_alloc ?_ _)); refine blk_put (cs := #[.int .i64 a1, .int .i64 0]) ?_ 1 _ rfl; (with_reducible repeat (first | refine blk_drewN ?_ _ | refine blk_drew ?_ | refine blk_alloc ?_ _)); refine blk_put (cs := #[.int .i64 0, .int .i64 0]) ?_ 0 _ rfl; (with_reducible repeat (first | refine blk_drewN ?_ _ | refine blk_drew ?_ | refine blk_alloc ?_ _)); exact BK149.out⟩, ⟨by repeat (first | (with_reducible first | exact HB.out | apply below_alloc | apply pw_below_drewN | apply below_drew1 | refine below_set ?_ GE149.out) | exact HB.out)⟩⟩
          · rw [if_neg c13] at H
            have c13b0 : decide (a1 ≤ a2) = false := decide_eq_false c13
            clear c13
            have H' := Aside0.mk H
            clear H
            go_wp2
            go_meet
            case rel => exact ⟨_, (false), (by first | rfl | (simp; done) | (simp [*]; done)), H', ⟨by first | omega | exact Nat.le_refl _⟩, ⟨by (with_reducible repeat (first | refine blk_drewN ?_ _ | refine blk_drew ?_ | refine blk_alloc ?_ _)); refine blk_put (cs := #[.int .i64 a1, .int .i64 0]) ?_ 1 _ rfl; (with_reducible repeat (first | refine blk_drewN ?_ _ | refine blk_drew ?_ | refine blk_alloc ?_ _)); refine blk_put (cs := #[.int .i64 0, .int .i64 0]) ?_ 0 _ rfl; (with_reducible repeat (first | refine blk_drewN ?_ _ | refine blk_drew ?_ | refine blk_alloc ?_ _)); exact BK149.out⟩, ⟨by repeat (first | (with_reducible first | exact HB.out | apply below_alloc | apply pw_below_drewN | apply below_drew1 | refine below_set ?_ GE149.out) | exact HB.out)⟩⟩
        · rw [if_neg c12] at H
          have c12b0 : decide (0 ≤ a1) = false := decide_eq_false c12
          clear c12
          (first | rw [c12b0] | (simp only [i64_w, i32_w]; rw [c12b0]) | skip)
          have H' := Aside0.mk H
          clear H
          go_wp2
          go_meet
          case rel => exact ⟨_, (false), (by first | rfl | (simp; done) | (simp [*]; done)), H', ⟨by first | omega | exact Nat.le_refl _⟩, ⟨by (with_reducible repeat (first | refine blk_drewN ?_ _ | refine blk_drew ?_ | refine blk_alloc ?_ _)); refine blk_put (cs := #[.int .i64 a1, .int .i64 0]) ?_ 1 _ rfl; (with_reducible repeat (first | refine blk_drewN ?_ _ | refine blk_drew ?_ | refine blk_alloc ?_ _)); refine blk_put (cs := #[.int .i64 0, .int .i64 0]) ?_ 0 _ rfl; (with_reducible repeat (first | refine blk_drewN ?_ _ | refine blk_drew ?_ | refine blk_alloc ?_ _)); exact BK149.out⟩, ⟨by repeat (first | (with_reducible first | exact HB.out | apply below_alloc | apply pw_below_drewN | apply below_drew1 | refine below_set ?_ GE149.out) | exact HB.out)⟩⟩
      case rest =>
        clear HC8
        try clear c1
        try clear p2
        try clear c5
        try clear c6
        try clear c6b0
        try clear c6b1
        try clear c7
        try clear c12
        try clear c12b0
        try clear c13
        try clear c13b0
        try clear hcz11_0
        try clear hcz11_1
        try clear hfz11_0
        try clear hfz11_1
        obtain ⟨kq, x9_7, rfl, HA, HJ7, BK149, HB⟩ := hcut
        cases kq with
        | zero => exact absurd HA.out (by simp [letterboxlaw05_LinesWithin.j0])
        | succ kj7 =>
          have H := HA.out
          clear HA
          simp only [letterboxlaw05_LinesWithin.j0] at H
          replace H := Option.bind_eq_some_iff.mp H
          obtain ⟨t150, A140, H⟩ := H
          replace H : (if (t150 != x9_7) = true then (some false) else (if x9_7 = true then (letterboxlaw05_LinesWithin.l0 kj7 l0 a1 a2 0 a1 a1 a2) else ((lines_Count.f l0 a1 a2).bind fun t151 => (if t151 = 0 then ((lines_Of.f l0 a1 a2).bind fun t152 => (if (t152.length : Int) = 0 then ((lines_Text.f l0 a1 a2 0).bind fun t155 => (some (t155.toList == ([] : List UInt8)))) else (some false))) else (some false))))) = some r := H
          have A14 := Aside0.mk A140
          clear A140
          by_cases c15 : (t150 != x9_7) = true
          · rw [if_pos c15] at H
            have c15b0 : (t150 != x9_7) = true := c15
            (try (have c15b1 : decide (t150 = x9_7) = false := by simpa using c15))
            (try (have c15b2 : (t150 == x9_7) = false := by simpa using c15))
            (try (have c15b3 : ¬ (t150 = x9_7) := by simpa using c15))
            clear c15
            obtain rfl := Option.some.inj H
            have hcz16_0 : wc.cell? ⟨gb149, 0, none⟩ = some (.int .i64 a1) := (blk_cell BK149.out 0).trans rfl
            have hcz16_1 : wc.cell? ⟨gb149, 1, none⟩ = some (.int .i64 a2) := (blk_cell BK149.out 1).trans rfl
            have hfz16_0 := blk_frozen BK149.out 0
            have hfz16_1 := blk_frozen BK149.out 1
            go_wp2_with (first | ((with_reducible refine gate_callee (f := 12) rfl ?_); refine goesL_ (some 37) rfl rfl Try.func12 (by kernel_rfl) rfl #[.agg #[.int .i64 a1, .int .i64 a2], .int .i64 (l0.length : Int)] rfl (by (try simp only [List.map_toArray, List.map_cons, List.map_nil]); first | done | rfl | (simp only [List.length_drop, List.length_take]; rfl)) ?_; (with_reducible refine (lines_Within.calls a1 a2 (l0.length : Int) t150 _ A14.out).mono ?_); rintro e w17 ⟨rfl, hb⟩; refine ⟨_, rfl, ?_⟩; have n0_ := Aside0.mk (blk_below (g := gb149) (o := .cells #[.int .i64 a1, .int .i64 a2] 27 (0, 0)) (by (with_reducible repeat (first | refine blk_drewN ?_ _ | refine blk_drew ?_ | refine blk_alloc ?_ _)); exact BK149.out) hb); have n1_ := Aside0.mk (below_step (by repeat (first | (with_reducible first | exact HB.out | apply below_alloc | apply pw_below_drewN | apply below_drew1 | refine below_set ?_ GE149.out) | exact HB.out)) hb); clear BK149; clear HB; have BK149 := n0_; have HB := n1_; clear n0_ n1_; (try clear hb); (try clear hb2); (try clear hk); (try clear hi)))
            go_ret
            exact ⟨by first | rfl | (simp [errW_none, errW_some] <;> rfl) | (simp [*, errW_none, errW_some] <;> rfl), by repeat (first | (with_reducible first | exact HB.out | apply below_alloc | apply pw_below_drewN | apply below_drew1 | refine below_set ?_ GE149.out) | exact HB.out)⟩
          · rw [if_neg c15] at H
            have c15b0 : (t150 != x9_7) = false := by simpa using c15
            (try (have c15b1 : decide (t150 = x9_7) = true := by simpa using c15))
            (try (have c15b2 : (t150 == x9_7) = true := by simpa using c15))
            clear c15
            by_cases c18 : x9_7 = true
            · subst c18
              have H1 : (letterboxlaw05_LinesWithin.l0 kj7 l0 a1 a2 0 a1 a1 a2) = some r := by rw [if_pos rfl] at H; exact H
              clear H
              have H := H1
              clear H1
              have H' := Aside0.mk H
              clear H
              have hcz19_0 : wc.cell? ⟨gb149, 0, none⟩ = some (.int .i64 a1) := (blk_cell BK149.out 0).trans rfl
              have hcz19_1 : wc.cell? ⟨gb149, 1, none⟩ = some (.int .i64 a2) := (blk_cell BK149.out 1).trans rfl
              have hfz19_0 := blk_frozen BK149.out 0
              have hfz19_1 := blk_frozen BK149.out 1
              go_wp2_with (first | ((with_reducible refine gate_callee (f := 12) rfl ?_); refine goesL_ (some 37) rfl rfl Try.func12 (by kernel_rfl) rfl #[.agg #[.int .i64 a1, .int .i64 a2], .int .i64 (l0.length : Int)] rfl (by (try simp only [List.map_toArray, List.map_cons, List.map_nil]); first | done | rfl | (simp only [List.length_drop, List.length_take]; rfl)) ?_; (with_reducible refine (lines_Within.calls a1 a2 (l0.length : Int) t150 _ A14.out).mono ?_); rintro e w20 ⟨rfl, hb⟩; refine ⟨_, rfl, ?_⟩; have n0_ := Aside0.mk (blk_below (g := gb149) (o := .cells #[.int .i64 a1, .int .i64 a2] 27 (0, 0)) (by (with_reducible repeat (first | refine blk_drewN ?_ _ | refine blk_drew ?_ | refine blk_alloc ?_ _)); exact BK149.out) hb); have n1_ := Aside0.mk (below_step (by repeat (first | (with_reducible first | exact HB.out | apply below_alloc | apply pw_below_drewN | apply below_drew1 | refine below_set ?_ GE149.out) | exact HB.out)) hb); clear BK149; clear HB; have BK149 := n0_; have HB := n1_; clear n0_ n1_; (try clear hb); (try clear hb2); (try clear hk); (try clear hi)))
              go_loopg [10, 11] kj7 (fun kq v10 v11 w' => ∃ (x10_2 : Int) (x11_2 : Int), v10 = .int .i64 x10_2 ∧ v11 = .int .i64 x11_2 ∧ Aside0 (letterboxlaw05_LinesWithin.l0 kq l0 a1 a2 x10_2 x11_2 a1 a2 = some r) ∧ Aside0 (kq ≤ kj7) ∧ Aside0 (w'.heap[gb149]? = some (.cells #[.int .i64 a1, .int .i64 a2] 27 (0, 0))) ∧ Aside0 (Below w.heap.size w w'))
              case atStart => exact ⟨(0), (a1), (by first | rfl | (simp; done) | (simp [*]; done)), (by first | rfl | (simp; done) | (simp [*]; done)), H', ⟨Nat.le_refl _⟩, ⟨by (with_reducible repeat (first | refine blk_drewN ?_ _ | refine blk_drew ?_ | refine blk_alloc ?_ _)); exact BK149.out⟩, ⟨by repeat (first | (with_reducible first | exact HB.out | apply below_alloc | apply pw_below_drewN | apply below_drew1 | refine below_set ?_ GE149.out) | exact HB.out)⟩⟩
              case round =>
                clear H'
                try clear c1
                try clear p2
                try clear c5
                try clear c6
                try clear c6b0
                try clear c6b1
                try clear c7
                try clear c12
                try clear c12b0
                try clear c13
                try clear c13b0
                try clear c15
                try clear c15b0
                try clear c15b1
                try clear c15b2
                try clear c18
                try clear hcz11_0
                try clear hcz11_1
                try clear hcz16_0
                try clear hcz16_1
                try clear hcz19_0
                try clear hcz19_1
                try clear hfz11_0
                try clear hfz11_1
                try clear hfz16_0
                try clear hfz16_1
                try clear hfz19_0
                try clear hfz19_1
                try clear p2
                obtain ⟨x10_2, x11_2, rfl, rfl, HA, HK2, BK149, HB⟩ := hrel
                cases gk with
                | zero => exact absurd HA.out (by simp [letterboxlaw05_LinesWithin.l0])
                | succ k2 =>
                  have H := HA.out
                  clear HA
                  simp only [letterboxlaw05_LinesWithin.l0] at H
                  by_cases c21 : x11_2 < a2
                  · rw [if_pos c21] at H
                    have c21b0 : decide (x11_2 < a2) = true := decide_eq_true c21
                    clear c21
                    by_cases c22 : 0 ≤ x11_2
                    · rw [if_pos c22] at H
                      have c22b0 : decide (0 ≤ x11_2) = true := decide_eq_true c22
                      clear c22
                      by_cases c23 : x11_2 < (l0.length : Int)
                      · rw [if_pos c23] at H
                        have c23b0 : decide (x11_2 < (l0.length : Int)) = true := decide_eq_true c23
                        clear c23
                        by_cases c24 : (rd l0 x11_2) = 10
                        · rw [if_pos c24] at H
                          have c24b0 : ((rd l0 x11_2) == 10) = true := beq_iff_eq.mpr c24
                          have c24b1 : ((rd l0 x11_2) != 10) = false := bne_eq_false_iff_eq.mpr c24
                          clear c24
                          have H' := Aside0.mk H
                          clear H
                          have p156 : 0 ≤ (x11_2 : Int) := of_decide_eq_true (by first | (with_reducible assumption) | assumption)
                          have q156 : x11_2 < (l0.length : Int) := of_decide_eq_true (by first | (with_reducible assumption) | assumption)
                          obtain ⟨ad156, e156, hx156_0⟩ := Kd.at_int HR0.out x11_2 p156 q156
                          cases e156
                          replace hx156_0 := (HB.out.cell (World.block_lt_of_cell? w _ hx156_0)).trans hx156_0
                          replace p156 := eq_true p156
                          replace q156 := eq_true q156
                          go_wp2
                          go_roundg k2
                          case measure => have := HJ7.out; have := HK2.out; omega
                          case rel => exact ⟨(wrap64 (x10_2 + 1)), (wrap64 (x11_2 + 1)), (by first | rfl | (simp; done) | (simp [*]; done)), (by first | rfl | (simp; done) | (simp [*]; done)), H', ⟨by have := HJ7.out; have := HK2.out; omega⟩, ⟨by (with_reducible repeat (first | refine blk_drewN ?_ _ | refine blk_drew ?_ | refine blk_alloc ?_ _)); exact BK149.out⟩, ⟨by repeat (first | (with_reducible first | exact HB.out | apply below_alloc | apply pw_below_drewN | apply below_drew1 | refine below_set ?_ GE149.out) | exact HB.out)⟩⟩
                        · rw [if_neg c24] at H
                          have c24b0 : ((rd l0 x11_2) == 10) = false := beq_eq_false_iff_ne.mpr c24
                          have c24b1 : ((rd l0 x11_2) != 10) = true := bne_iff_ne.mpr c24
                          have H' := Aside0.mk H
                          clear H
                          have p156 : 0 ≤ (x11_2 : Int) := of_decide_eq_true (by first | (with_reducible assumption) | assumption)
                          have q156 : x11_2 < (l0.length : Int) := of_decide_eq_true (by first | (with_reducible assumption) | assumption)
                          obtain ⟨ad156, e156, hx156_0⟩ := Kd.at_int HR0.out x11_2 p156 q156
                          cases e156
                          replace hx156_0 := (HB.out.cell (World.block_lt_of_cell? w _ hx156_0)).trans hx156_0
                          replace p156 := eq_true p156
                          replace q156 := eq_true q156
                          go_wp2
                          go_roundg k2
                          case measure => have := HJ7.out; have := HK2.out; omega
                          case rel => exact ⟨(x10_2), (wrap64 (x11_2 + 1)), (by first | rfl | (simp; done) | (simp [*]; done)), (by first | rfl | (simp; done) | (simp [*]; done)), H', ⟨by have := HJ7.out; have := HK2.out; omega⟩, ⟨by (with_reducible repeat (first | refine blk_drewN ?_ _ | refine blk_drew ?_ | refine blk_alloc ?_ _)); exact BK149.out⟩, ⟨by repeat (first | (with_reducible first | exact HB.out | apply below_alloc | apply pw_below_drewN | apply below_drew1 | refine below_set ?_ GE149.out) | exact HB.out)⟩⟩
                      · rw [if_neg c23] at H
                        exact absurd H (by simp)
                    · rw [if_neg c22] at H
                      exact absurd H (by simp)
                  · rw [if_neg c21] at H
                    have c21b0 : decide (x11_2 < a2) = false := decide_eq_false c21
                    clear c21
                    by_cases c25 : a2 > a1
                    · rw [if_pos c25] at H
                      have c25b0 : decide (a1 < a2) = true := decide_eq_true c25
                      clear c25
                      obtain ⟨ji26, hji26⟩ : ∃ j_ : Int, (wrap64 (a2 - 1)) = j_ := ⟨_, rfl⟩
                      replace H : (if 0 ≤ (ji26) then (if (ji26) < (l0.length : Int) then (if (rd l0 (ji26)) = 10 then ((lines_Count.f l0 a1 a2).bind fun t158 => (some (t158 == x10_2))) else ((lines_Count.f l0 a1 a2).bind fun t159 => (some (t159 == (wrap64 (x10_2 + 1)))))) else (none)) else (none)) = some r := by first | (rw [hji26] at H; exact H) | (simp only [hji26] at H ⊢; exact H)
                      have hji26w : (IntKind.i64.wrap (a2 - 1)) = ji26 := (i64_w _).trans hji26
                      by_cases c27 : 0 ≤ (ji26)
                      · rw [if_pos c27] at H
                        have c27b0 : decide (0 ≤ (ji26)) = true := decide_eq_true c27
                        clear c27
                        by_cases c28 : (ji26) < (l0.length : Int)
                        · rw [if_pos c28] at H
                          have c28b0 : decide ((ji26) < (l0.length : Int)) = true := decide_eq_true c28
                          clear c28
                          by_cases c29 : (rd l0 (ji26)) = 10
                          · rw [if_pos c29] at H
                            have c29b0 : ((rd l0 (ji26)) == 10) = true := beq_iff_eq.mpr c29
                            have c29b1 : ((rd l0 (ji26)) != 10) = false := bne_eq_false_iff_eq.mpr c29
                            clear c29
                            replace H := Option.bind_eq_some_iff.mp H
                            obtain ⟨t158, A300, H⟩ := H
                            replace H : (some (t158 == x10_2)) = some r := H
                            have A30 := Aside0.mk A300
                            clear A300
                            obtain rfl := Option.some.inj H
                            have p157 : 0 ≤ ((ji26) : Int) := of_decide_eq_true (by first | (with_reducible assumption) | assumption)
                            have q157 : (ji26) < (l0.length : Int) := of_decide_eq_true (by first | (with_reducible assumption) | assumption)
                            obtain ⟨ad157, e157, hx157_0⟩ := Kd.at_int HR0.out (ji26) p157 q157
                            cases e157
                            replace hx157_0 := (HB.out.cell (World.block_lt_of_cell? w _ hx157_0)).trans hx157_0
                            replace p157 := eq_true p157
                            replace q157 := eq_true q157
                            have hcz31_0 : wr.cell? ⟨gb149, 0, none⟩ = some (.int .i64 a1) := (blk_cell BK149.out 0).trans rfl
                            have hcz31_1 : wr.cell? ⟨gb149, 1, none⟩ = some (.int .i64 a2) := (blk_cell BK149.out 1).trans rfl
                            have hfz31_0 := blk_frozen BK149.out 0
                            have hfz31_1 := blk_frozen BK149.out 1
                            go_wp2_with (first | ((with_reducible refine gate_callee (f := 11) rfl ?_); refine goesL_ (some 89) rfl rfl Try.func11 (by kernel_rfl) rfl #[.slice (some ad157) l0.length c0, .agg #[.int .i64 a1, .int .i64 a2]] rfl (by (try simp only [List.map_toArray, List.map_cons, List.map_nil]); first | done | rfl | (simp only [List.length_drop, List.length_take]; rfl)) ?_; (with_reducible refine (lines_Count.calls _ _ l0 a1 a2 t158 _ ?side1 ?side2 A30.out).mono ?_); (case side1 => repeat (first | exact (Kd.C_below HR0.out HB.out) | (with_reducible refine Kd.C_alloc ?_ _) | (with_reducible refine Kd.C_drewN ?_ _) | (with_reducible refine Kd.C_drew ?_))); (case side2 => exact HC0.out); rintro e w32 ⟨rfl, hb⟩; refine ⟨_, rfl, ?_⟩; have n0_ := Aside0.mk (blk_below (g := gb149) (o := .cells #[.int .i64 a1, .int .i64 a2] 27 (0, 0)) (by (with_reducible repeat (first | refine blk_drewN ?_ _ | refine blk_drew ?_ | refine blk_alloc ?_ _)); exact BK149.out) hb); have n1_ := Aside0.mk (below_step (by repeat (first | (with_reducible first | exact HB.out | apply below_alloc | apply pw_below_drewN | apply below_drew1 | refine below_set ?_ GE149.out) | exact HB.out)) hb); clear BK149; clear HB; have BK149 := n0_; have HB := n1_; clear n0_ n1_; (try clear hb); (try clear hb2); (try clear hk); (try clear hi)))
                            go_ret
                            exact ⟨by first | rfl | (simp [errW_none, errW_some] <;> rfl) | (simp only [← hji26]; first | rfl | (simp [errW_none, errW_some] <;> rfl)) | (simp [*, errW_none, errW_some] <;> rfl), by repeat (first | (with_reducible first | exact HB.out | apply below_alloc | apply pw_below_drewN | apply below_drew1 | refine below_set ?_ GE149.out) | exact HB.out)⟩
                          · rw [if_neg c29] at H
                            have c29b0 : ((rd l0 (ji26)) == 10) = false := beq_eq_false_iff_ne.mpr c29
                            have c29b1 : ((rd l0 (ji26)) != 10) = true := bne_iff_ne.mpr c29
                            replace H := Option.bind_eq_some_iff.mp H
                            obtain ⟨t159, A330, H⟩ := H
                            replace H : (some (t159 == (wrap64 (x10_2 + 1)))) = some r := H
                            have A33 := Aside0.mk A330
                            clear A330
                            obtain rfl := Option.some.inj H
                            have p157 : 0 ≤ ((ji26) : Int) := of_decide_eq_true (by first | (with_reducible assumption) | assumption)
                            have q157 : (ji26) < (l0.length : Int) := of_decide_eq_true (by first | (with_reducible assumption) | assumption)
                            obtain ⟨ad157, e157, hx157_0⟩ := Kd.at_int HR0.out (ji26) p157 q157
                            cases e157
                            replace hx157_0 := (HB.out.cell (World.block_lt_of_cell? w _ hx157_0)).trans hx157_0
                            replace p157 := eq_true p157
                            replace q157 := eq_true q157
                            have hcz34_0 : wr.cell? ⟨gb149, 0, none⟩ = some (.int .i64 a1) := (blk_cell BK149.out 0).trans rfl
                            have hcz34_1 : wr.cell? ⟨gb149, 1, none⟩ = some (.int .i64 a2) := (blk_cell BK149.out 1).trans rfl
                            have hfz34_0 := blk_frozen BK149.out 0
                            have hfz34_1 := blk_frozen BK149.out 1
                            go_wp2_with (first | ((with_reducible refine gate_callee (f := 11) rfl ?_); refine goesL_ (some 89) rfl rfl Try.func11 (by kernel_rfl) rfl #[.slice (some ad157) l0.length c0, .agg #[.int .i64 a1, .int .i64 a2]] rfl (by (try simp only [List.map_toArray, List.map_cons, List.map_nil]); first | done | rfl | (simp only [List.length_drop, List.length_take]; rfl)) ?_; (with_reducible refine (lines_Count.calls _ _ l0 a1 a2 t159 _ ?side1 ?side2 A33.out).mono ?_); (case side1 => repeat (first | exact (Kd.C_below HR0.out HB.out) | (with_reducible refine Kd.C_alloc ?_ _) | (with_reducible refine Kd.C_drewN ?_ _) | (with_reducible refine Kd.C_drew ?_))); (case side2 => exact HC0.out); rintro e w35 ⟨rfl, hb⟩; refine ⟨_, rfl, ?_⟩; have n0_ := Aside0.mk (blk_below (g := gb149) (o := .cells #[.int .i64 a1, .int .i64 a2] 27 (0, 0)) (by (with_reducible repeat (first | refine blk_drewN ?_ _ | refine blk_drew ?_ | refine blk_alloc ?_ _)); exact BK149.out) hb); have n1_ := Aside0.mk (below_step (by repeat (first | (with_reducible first | exact HB.out | apply below_alloc | apply pw_below_drewN | apply below_drew1 | refine below_set ?_ GE149.out) | exact HB.out)) hb); clear BK149; clear HB; have BK149 := n0_; have HB := n1_; clear n0_ n1_; (try clear hb); (try clear hb2); (try clear hk); (try clear hi)))
                            go_ret
                            exact ⟨by first | rfl | (simp [errW_none, errW_some] <;> rfl) | (simp only [← hji26]; first | rfl | (simp [errW_none, errW_some] <;> rfl)) | (simp [*, errW_none, errW_some] <;> rfl), by repeat (first | (with_reducible first | exact HB.out | apply below_alloc | apply pw_below_drewN | apply below_drew1 | refine below_set ?_ GE149.out) | exact HB.out)⟩
                        · rw [if_neg c28] at H
                          exact absurd H (by simp)
                      · rw [if_neg c27] at H
                        exact absurd H (by simp)
                    · rw [if_neg c25] at H
                      have c25b0 : decide (a1 < a2) = false := decide_eq_false c25
                      clear c25
                      replace H := Option.bind_eq_some_iff.mp H
                      obtain ⟨t160, A360, H⟩ := H
                      replace H : (some (t160 == x10_2)) = some r := H
                      have A36 := Aside0.mk A360
                      clear A360
                      obtain rfl := Option.some.inj H
                      have hcz37_0 : wr.cell? ⟨gb149, 0, none⟩ = some (.int .i64 a1) := (blk_cell BK149.out 0).trans rfl
                      have hcz37_1 : wr.cell? ⟨gb149, 1, none⟩ = some (.int .i64 a2) := (blk_cell BK149.out 1).trans rfl
                      have hfz37_0 := blk_frozen BK149.out 0
                      have hfz37_1 := blk_frozen BK149.out 1
                      go_wp2_with (first | ((with_reducible refine gate_callee (f := 11) rfl ?_); refine goesL_ (some 89) rfl rfl Try.func11 (by kernel_rfl) rfl #[.slice A0 l0.length c0, .agg #[.int .i64 a1, .int .i64 a2]] rfl (by (try simp only [List.map_toArray, List.map_cons, List.map_nil]); first | done | rfl | (simp only [List.length_drop, List.length_take]; rfl)) ?_; (with_reducible refine (lines_Count.calls _ _ l0 a1 a2 t160 _ ?side1 ?side2 A36.out).mono ?_); (case side1 => repeat (first | exact (Kd.C_below HR0.out HB.out) | (with_reducible refine Kd.C_alloc ?_ _) | (with_reducible refine Kd.C_drewN ?_ _) | (with_reducible refine Kd.C_drew ?_))); (case side2 => exact HC0.out); rintro e w38 ⟨rfl, hb⟩; refine ⟨_, rfl, ?_⟩; have n0_ := Aside0.mk (blk_below (g := gb149) (o := .cells #[.int .i64 a1, .int .i64 a2] 27 (0, 0)) (by (with_reducible repeat (first | refine blk_drewN ?_ _ | refine blk_drew ?_ | refine blk_alloc ?_ _)); exact BK149.out) hb); have n1_ := Aside0.mk (below_step (by repeat (first | (with_reducible first | exact HB.out | apply below_alloc | apply pw_below_drewN | apply below_drew1 | refine below_set ?_ GE149.out) | exact HB.out)) hb); clear BK149; clear HB; have BK149 := n0_; have HB := n1_; clear n0_ n1_; (try clear hb); (try clear hb2); (try clear hk); (try clear hi)))
                      go_ret
                      exact ⟨by first | rfl | (simp [errW_none, errW_some] <;> rfl) | (simp [*, errW_none, errW_some] <;> rfl), by repeat (first | (with_reducible first | exact HB.out | apply below_alloc | apply pw_below_drewN | apply below_drew1 | refine below_set ?_ GE149.out) | exact HB.out)⟩
            · replace c18 := Bool.eq_false_iff.mpr c18
              subst c18
              have H1 : ((lines_Count.f l0 a1 a2).bind fun t151 => (if t151 = 0 then ((lines_Of.f l0 a1 a2).bind fun t152 => (if (t152.length : Int) = 0 then ((lines_Text.f l0 a1 a2 0).bind fun t155 => (some (t155.toList == ([] : List UInt8)))) else (some false))) else (some false))) = some r := by rw [if_neg (show ¬ (false = true) by decide)] at H; exact H
              clear H
              have H := H1
              clear H1
              replace H := Option.bind_eq_some_iff.mp H
              obtain ⟨t151, A390, H⟩ := H
              replace H : (if t151 = 0 then ((lines_Of.f l0 a1 a2).bind fun t152 => (if (t152.length : Int) = 0 then ((lines_Text.f l0 a1 a2 0).bind fun t155 => (some (t155.toList == ([] : List UInt8)))) else (some false))) else (some false)) = some r := H
              have A39 := Aside0.mk A390
              clear A390
              by_cases c40 : t151 = 0
              · rw [if_pos c40] at H
                have c40b0 : (t151 == 0) = true := beq_iff_eq.mpr c40
                have c40b1 : (t151 != 0) = false := bne_eq_false_iff_eq.mpr c40
                clear c40
                replace H := Option.bind_eq_some_iff.mp H
                obtain ⟨t152, A410, H⟩ := H
                replace H : (if (t152.length : Int) = 0 then ((lines_Text.f l0 a1 a2 0).bind fun t155 => (some (t155.toList == ([] : List UInt8)))) else (some false)) = some r := H
                have A41 := Aside0.mk A410
                clear A410
                by_cases c42 : (t152.length : Int) = 0
                · rw [if_pos c42] at H
                  have c42b0 : ((t152.length : Int) == 0) = true := beq_iff_eq.mpr c42
                  have c42b1 : ((t152.length : Int) != 0) = false := bne_eq_false_iff_eq.mpr c42
                  clear c42
                  replace H := Option.bind_eq_some_iff.mp H
                  obtain ⟨t155, A430, H⟩ := H
                  replace H : (some (t155.toList == ([] : List UInt8))) = some r := H
                  have A43 := Aside0.mk A430
                  clear A430
                  obtain rfl := Option.some.inj H
                  have hcz44_0 : wc.cell? ⟨gb149, 0, none⟩ = some (.int .i64 a1) := (blk_cell BK149.out 0).trans rfl
                  have hcz44_1 : wc.cell? ⟨gb149, 1, none⟩ = some (.int .i64 a2) := (blk_cell BK149.out 1).trans rfl
                  have hfz44_0 := blk_frozen BK149.out 0
                  have hfz44_1 := blk_frozen BK149.out 1
                  go_wp2_with (first | ((with_reducible refine gate_callee (f := 12) rfl ?_); refine goesL_ (some 37) rfl rfl Try.func12 (by kernel_rfl) rfl #[.agg #[.int .i64 a1, .int .i64 a2], .int .i64 (l0.length : Int)] rfl (by (try simp only [List.map_toArray, List.map_cons, List.map_nil]); first | done | rfl | (simp only [List.length_drop, List.length_take]; rfl)) ?_; (with_reducible refine (lines_Within.calls a1 a2 (l0.length : Int) t150 _ A14.out).mono ?_); rintro e w45 ⟨rfl, hb⟩; refine ⟨_, rfl, ?_⟩; have n0_ := Aside0.mk (blk_below (g := gb149) (o := .cells #[.int .i64 a1, .int .i64 a2] 27 (0, 0)) (by (with_reducible repeat (first | refine blk_drewN ?_ _ | refine blk_drew ?_ | refine blk_alloc ?_ _)); exact BK149.out) hb); have n1_ := Aside0.mk (below_step (by repeat (first | (with_reducible first | exact HB.out | apply below_alloc | apply pw_below_drewN | apply below_drew1 | refine below_set ?_ GE149.out) | exact HB.out)) hb); clear BK149; clear HB; have BK149 := n0_; have HB := n1_; clear n0_ n1_; (try clear hb); (try clear hb2); (try clear hk); (try clear hi); have hcz46_0 : w45.cell? ⟨gb149, 0, none⟩ = some (.int .i64 a1) := (blk_cell BK149.out 0).trans rfl; have hcz46_1 : w45.cell? ⟨gb149, 1, none⟩ = some (.int .i64 a2) := (blk_cell BK149.out 1).trans rfl; have hfz46_0 := blk_frozen BK149.out 0; have hfz46_1 := blk_frozen BK149.out 1) | ((with_reducible refine gate_callee (f := 11) rfl ?_); refine goesL_ (some 44) rfl rfl Try.func11 (by kernel_rfl) rfl #[.slice A0 l0.length c0, .agg #[.int .i64 a1, .int .i64 a2]] rfl (by (try simp only [List.map_toArray, List.map_cons, List.map_nil]); first | done | rfl | (simp only [List.length_drop, List.length_take]; rfl)) ?_; (with_reducible refine (lines_Count.calls _ _ l0 a1 a2 t151 _ ?side1 ?side2 A39.out).mono ?_); (case side1 => repeat (first | exact (Kd.C_below HR0.out HB.out) | (with_reducible refine Kd.C_alloc ?_ _) | (with_reducible refine Kd.C_drewN ?_ _) | (with_reducible refine Kd.C_drew ?_))); (case side2 => exact HC0.out); rintro e w47 ⟨rfl, hb⟩; refine ⟨_, rfl, ?_⟩; have n0_ := Aside0.mk (blk_below (g := gb149) (o := .cells #[.int .i64 a1, .int .i64 a2] 27 (0, 0)) (by (with_reducible repeat (first | refine blk_drewN ?_ _ | refine blk_drew ?_ | refine blk_alloc ?_ _)); exact BK149.out) hb); have n1_ := Aside0.mk (below_step (by repeat (first | (with_reducible first | exact HB.out | apply below_alloc | apply pw_below_drewN | apply below_drew1 | refine below_set ?_ GE149.out) | exact HB.out)) hb); clear BK149; clear HB; have BK149 := n0_; have HB := n1_; clear n0_ n1_; (try clear hb); (try clear hb2); (try clear hk); (try clear hi); have hcz48_0 : w47.cell? ⟨gb149, 0, none⟩ = some (.int .i64 a1) := (blk_cell BK149.out 0).trans rfl; have hcz48_1 : w47.cell? ⟨gb149, 1, none⟩ = some (.int .i64 a2) := (blk_cell BK149.out 1).trans rfl; have hfz48_0 := blk_frozen BK149.out 0; have hfz48_1 := blk_frozen BK149.out 1) | (go_at_call 8; (with_reducible refine (lines_Of.calls _ _ l0 a1 a2 t152 _ ?side1 ?side2 A41.out).mono ?_); (case side1 => repeat (first | exact (Kd.C_below HR0.out HB.out) | (with_reducible refine Kd.C_alloc ?_ _) | (with_reducible refine Kd.C_drewN ?_ _) | (with_reducible refine Kd.C_drew ?_))); (case side2 => exact HC0.out); rintro e w49 ⟨v153, rfl, ho0, hb⟩; have n0_ := Aside0.mk (Kd.R_lower ho0 (below_size (by repeat (first | (with_reducible first | exact HB.out | apply below_alloc | apply pw_below_drewN | apply below_drew1 | refine below_set ?_ GE149.out) | exact HB.out)))); have n1_ := Aside0.mk (blk_below (g := gb149) (o := .cells #[.int .i64 a1, .int .i64 a2] 27 (0, 0)) (by (with_reducible repeat (first | refine blk_drewN ?_ _ | refine blk_drew ?_ | refine blk_alloc ?_ _)); exact BK149.out) hb); have n2_ := Aside0.mk (below_step (by repeat (first | (with_reducible first | exact HB.out | apply below_alloc | apply pw_below_drewN | apply below_drew1 | refine below_set ?_ GE149.out) | exact HB.out)) hb); clear BK149; clear HB; have HO154 := n0_; have BK149 := n1_; have HB := n2_; clear n0_ n1_ n2_; (try clear hb); (try clear hb2); (try clear hk); (try clear hi); (try clear ho0); obtain ⟨Ao50, co50, eo50⟩ := Kd.R_slice HO154.out; subst eo50) | (go_at_call 9; (with_reducible refine (lines_Text.calls _ _ l0 a1 a2 0 t155 _ ?side1 ?side2 A43.out).mono ?_); (case side1 => repeat (first | exact (Kd.C_below HR0.out HB.out) | (with_reducible refine Kd.C_alloc ?_ _) | (with_reducible refine Kd.C_drewN ?_ _) | (with_reducible refine Kd.C_drew ?_))); (case side2 => exact HC0.out); rintro e w51 ⟨rfl, hb⟩; have n0_ := Aside0.mk (Kd.R_below (by (with_reducible repeat (first | apply Kd.R_alloc | apply Kd.R_drewN | apply Kd.R_drew)); exact HO154.out) hb); have n1_ := Aside0.mk (blk_below (g := gb149) (o := .cells #[.int .i64 a1, .int .i64 a2] 27 (0, 0)) (by (with_reducible repeat (first | refine blk_drewN ?_ _ | refine blk_drew ?_ | refine blk_alloc ?_ _)); exact BK149.out) hb); have n2_ := Aside0.mk (below_step (by repeat (first | (with_reducible first | exact HB.out | apply below_alloc | apply pw_below_drewN | apply below_drew1 | refine below_set ?_ GE149.out) | exact HB.out)) hb); clear HO154; clear BK149; clear HB; have HO154 := n0_; have BK149 := n1_; have HB := n2_; clear n0_ n1_ n2_; (try clear hb); (try clear hb2); (try clear hk); (try clear hi)))
                  go_ret
                  exact ⟨by first | rfl | (simp [errW_none, errW_some] <;> rfl) | (simp [*, errW_none, errW_some] <;> rfl), by repeat (first | (with_reducible first | exact HB.out | apply below_alloc | apply pw_below_drewN | apply below_drew1 | refine below_set ?_ GE149.out) | exact HB.out)⟩
                · rw [if_neg c42] at H
                  have c42b0 : ((t152.length : Int) == 0) = false := beq_eq_false_iff_ne.mpr c42
                  have c42b1 : ((t152.length : Int) != 0) = true := bne_iff_ne.mpr c42
                  have c42b2 : ¬ (t152 = []) := fun h_ => c42 (by rw [h_]; rfl)
                  obtain rfl := Option.some.inj H
                  have hcz52_0 : wc.cell? ⟨gb149, 0, none⟩ = some (.int .i64 a1) := (blk_cell BK149.out 0).trans rfl
                  have hcz52_1 : wc.cell? ⟨gb149, 1, none⟩ = some (.int .i64 a2) := (blk_cell BK149.out 1).trans rfl
                  have hfz52_0 := blk_frozen BK149.out 0
                  have hfz52_1 := blk_frozen BK149.out 1
                  go_wp2_with (first | ((with_reducible refine gate_callee (f := 12) rfl ?_); refine goesL_ (some 37) rfl rfl Try.func12 (by kernel_rfl) rfl #[.agg #[.int .i64 a1, .int .i64 a2], .int .i64 (l0.length : Int)] rfl (by (try simp only [List.map_toArray, List.map_cons, List.map_nil]); first | done | rfl | (simp only [List.length_drop, List.length_take]; rfl)) ?_; (with_reducible refine (lines_Within.calls a1 a2 (l0.length : Int) t150 _ A14.out).mono ?_); rintro e w53 ⟨rfl, hb⟩; refine ⟨_, rfl, ?_⟩; have n0_ := Aside0.mk (blk_below (g := gb149) (o := .cells #[.int .i64 a1, .int .i64 a2] 27 (0, 0)) (by (with_reducible repeat (first | refine blk_drewN ?_ _ | refine blk_drew ?_ | refine blk_alloc ?_ _)); exact BK149.out) hb); have n1_ := Aside0.mk (below_step (by repeat (first | (with_reducible first | exact HB.out | apply below_alloc | apply pw_below_drewN | apply below_drew1 | refine below_set ?_ GE149.out) | exact HB.out)) hb); clear BK149; clear HB; have BK149 := n0_; have HB := n1_; clear n0_ n1_; (try clear hb); (try clear hb2); (try clear hk); (try clear hi); have hcz54_0 : w53.cell? ⟨gb149, 0, none⟩ = some (.int .i64 a1) := (blk_cell BK149.out 0).trans rfl; have hcz54_1 : w53.cell? ⟨gb149, 1, none⟩ = some (.int .i64 a2) := (blk_cell BK149.out 1).trans rfl; have hfz54_0 := blk_frozen BK149.out 0; have hfz54_1 := blk_frozen BK149.out 1) | ((with_reducible refine gate_callee (f := 11) rfl ?_); refine goesL_ (some 44) rfl rfl Try.func11 (by kernel_rfl) rfl #[.slice A0 l0.length c0, .agg #[.int .i64 a1, .int .i64 a2]] rfl (by (try simp only [List.map_toArray, List.map_cons, List.map_nil]); first | done | rfl | (simp only [List.length_drop, List.length_take]; rfl)) ?_; (with_reducible refine (lines_Count.calls _ _ l0 a1 a2 t151 _ ?side1 ?side2 A39.out).mono ?_); (case side1 => repeat (first | exact (Kd.C_below HR0.out HB.out) | (with_reducible refine Kd.C_alloc ?_ _) | (with_reducible refine Kd.C_drewN ?_ _) | (with_reducible refine Kd.C_drew ?_))); (case side2 => exact HC0.out); rintro e w55 ⟨rfl, hb⟩; refine ⟨_, rfl, ?_⟩; have n0_ := Aside0.mk (blk_below (g := gb149) (o := .cells #[.int .i64 a1, .int .i64 a2] 27 (0, 0)) (by (with_reducible repeat (first | refine blk_drewN ?_ _ | refine blk_drew ?_ | refine blk_alloc ?_ _)); exact BK149.out) hb); have n1_ := Aside0.mk (below_step (by repeat (first | (with_reducible first | exact HB.out | apply below_alloc | apply pw_below_drewN | apply below_drew1 | refine below_set ?_ GE149.out) | exact HB.out)) hb); clear BK149; clear HB; have BK149 := n0_; have HB := n1_; clear n0_ n1_; (try clear hb); (try clear hb2); (try clear hk); (try clear hi); have hcz56_0 : w55.cell? ⟨gb149, 0, none⟩ = some (.int .i64 a1) := (blk_cell BK149.out 0).trans rfl; have hcz56_1 : w55.cell? ⟨gb149, 1, none⟩ = some (.int .i64 a2) := (blk_cell BK149.out 1).trans rfl; have hfz56_0 := blk_frozen BK149.out 0; have hfz56_1 := blk_frozen BK149.out 1) | (go_at_call 8; (with_reducible refine (lines_Of.calls _ _ l0 a1 a2 t152 _ ?side1 ?side2 A41.out).mono ?_); (case side1 => repeat (first | exact (Kd.C_below HR0.out HB.out) | (with_reducible refine Kd.C_alloc ?_ _) | (with_reducible refine Kd.C_drewN ?_ _) | (with_reducible refine Kd.C_drew ?_))); (case side2 => exact HC0.out); rintro e w57 ⟨v153, rfl, ho0, hb⟩; have n0_ := Aside0.mk (Kd.R_lower ho0 (below_size (by repeat (first | (with_reducible first | exact HB.out | apply below_alloc | apply pw_below_drewN | apply below_drew1 | refine below_set ?_ GE149.out) | exact HB.out)))); have n1_ := Aside0.mk (blk_below (g := gb149) (o := .cells #[.int .i64 a1, .int .i64 a2] 27 (0, 0)) (by (with_reducible repeat (first | refine blk_drewN ?_ _ | refine blk_drew ?_ | refine blk_alloc ?_ _)); exact BK149.out) hb); have n2_ := Aside0.mk (below_step (by repeat (first | (with_reducible first | exact HB.out | apply below_alloc | apply pw_below_drewN | apply below_drew1 | refine below_set ?_ GE149.out) | exact HB.out)) hb); clear BK149; clear HB; have HO154 := n0_; have BK149 := n1_; have HB := n2_; clear n0_ n1_ n2_; (try clear hb); (try clear hb2); (try clear hk); (try clear hi); (try clear ho0); obtain ⟨Ao58, co58, eo58⟩ := Kd.R_slice HO154.out; subst eo58))
                  go_ret
                  exact ⟨by first | rfl | (simp [errW_none, errW_some] <;> rfl) | (simp [*, errW_none, errW_some] <;> rfl), by repeat (first | (with_reducible first | exact HB.out | apply below_alloc | apply pw_below_drewN | apply below_drew1 | refine below_set ?_ GE149.out) | exact HB.out)⟩
              · rw [if_neg c40] at H
                have c40b0 : (t151 == 0) = false := beq_eq_false_iff_ne.mpr c40
                have c40b1 : (t151 != 0) = true := bne_iff_ne.mpr c40
                obtain rfl := Option.some.inj H
                have hcz59_0 : wc.cell? ⟨gb149, 0, none⟩ = some (.int .i64 a1) := (blk_cell BK149.out 0).trans rfl
                have hcz59_1 : wc.cell? ⟨gb149, 1, none⟩ = some (.int .i64 a2) := (blk_cell BK149.out 1).trans rfl
                have hfz59_0 := blk_frozen BK149.out 0
                have hfz59_1 := blk_frozen BK149.out 1
                go_wp2_with (first | ((with_reducible refine gate_callee (f := 12) rfl ?_); refine goesL_ (some 37) rfl rfl Try.func12 (by kernel_rfl) rfl #[.agg #[.int .i64 a1, .int .i64 a2], .int .i64 (l0.length : Int)] rfl (by (try simp only [List.map_toArray, List.map_cons, List.map_nil]); first | done | rfl | (simp only [List.length_drop, List.length_take]; rfl)) ?_; (with_reducible refine (lines_Within.calls a1 a2 (l0.length : Int) t150 _ A14.out).mono ?_); rintro e w60 ⟨rfl, hb⟩; refine ⟨_, rfl, ?_⟩; have n0_ := Aside0.mk (blk_below (g := gb149) (o := .cells #[.int .i64 a1, .int .i64 a2] 27 (0, 0)) (by (with_reducible repeat (first | refine blk_drewN ?_ _ | refine blk_drew ?_ | refine blk_alloc ?_ _)); exact BK149.out) hb); have n1_ := Aside0.mk (below_step (by repeat (first | (with_reducible first | exact HB.out | apply below_alloc | apply pw_below_drewN | apply below_drew1 | refine below_set ?_ GE149.out) | exact HB.out)) hb); clear BK149; clear HB; have BK149 := n0_; have HB := n1_; clear n0_ n1_; (try clear hb); (try clear hb2); (try clear hk); (try clear hi); have hcz61_0 : w60.cell? ⟨gb149, 0, none⟩ = some (.int .i64 a1) := (blk_cell BK149.out 0).trans rfl; have hcz61_1 : w60.cell? ⟨gb149, 1, none⟩ = some (.int .i64 a2) := (blk_cell BK149.out 1).trans rfl; have hfz61_0 := blk_frozen BK149.out 0; have hfz61_1 := blk_frozen BK149.out 1) | ((with_reducible refine gate_callee (f := 11) rfl ?_); refine goesL_ (some 44) rfl rfl Try.func11 (by kernel_rfl) rfl #[.slice A0 l0.length c0, .agg #[.int .i64 a1, .int .i64 a2]] rfl (by (try simp only [List.map_toArray, List.map_cons, List.map_nil]); first | done | rfl | (simp only [List.length_drop, List.length_take]; rfl)) ?_; (with_reducible refine (lines_Count.calls _ _ l0 a1 a2 t151 _ ?side1 ?side2 A39.out).mono ?_); (case side1 => repeat (first | exact (Kd.C_below HR0.out HB.out) | (with_reducible refine Kd.C_alloc ?_ _) | (with_reducible refine Kd.C_drewN ?_ _) | (with_reducible refine Kd.C_drew ?_))); (case side2 => exact HC0.out); rintro e w62 ⟨rfl, hb⟩; refine ⟨_, rfl, ?_⟩; have n0_ := Aside0.mk (blk_below (g := gb149) (o := .cells #[.int .i64 a1, .int .i64 a2] 27 (0, 0)) (by (with_reducible repeat (first | refine blk_drewN ?_ _ | refine blk_drew ?_ | refine blk_alloc ?_ _)); exact BK149.out) hb); have n1_ := Aside0.mk (below_step (by repeat (first | (with_reducible first | exact HB.out | apply below_alloc | apply pw_below_drewN | apply below_drew1 | refine below_set ?_ GE149.out) | exact HB.out)) hb); clear BK149; clear HB; have BK149 := n0_; have HB := n1_; clear n0_ n1_; (try clear hb); (try clear hb2); (try clear hk); (try clear hi)))
                go_ret
                exact ⟨by first | rfl | (simp [errW_none, errW_some] <;> rfl) | (simp [*, errW_none, errW_some] <;> rfl), by repeat (first | (with_reducible first | exact HB.out | apply below_alloc | apply pw_below_drewN | apply below_drew1 | refine below_set ?_ GE149.out) | exact HB.out)⟩
  · replace c5 := Bool.eq_false_iff.mpr c5
    subst c5
    have H1 : (some false) = some r := by rw [if_neg (show ¬ (false = true) by decide)] at H; exact H
    clear H
    have H := H1
    clear H1
    obtain rfl := Option.some.inj H
    go_enter Try.func6, Try.ntmps6
    go_wp2_with (first | ((with_reducible refine gate_callee (f := 7) rfl ?_); refine goesL_ (some 12) rfl rfl Try.func7 (by kernel_rfl) rfl #[] rfl (by (try simp only [List.map_toArray, List.map_cons, List.map_nil]); first | done | rfl | (simp only [List.length_drop, List.length_take]; rfl)) ?_; (with_reducible refine (letterboxlaw05_awake.calls  false _ A4.out).mono ?_); rintro e w63 ⟨rfl, hb⟩; refine ⟨_, rfl, ?_⟩; have n0_ := Aside0.mk (below_step (by repeat (first | (with_reducible first | exact HB.out | apply below_alloc | apply pw_below_drewN | apply below_drew1) | exact HB.out)) hb); clear HB; have HB := n0_; clear n0_; (try clear hb); (try clear hb2); (try clear hk); (try clear hi)))
    go_ret
    exact ⟨by first | rfl | (simp [errW_none, errW_some] <;> rfl) | (simp [*, errW_none, errW_some] <;> rfl), by repeat (first | (with_reducible first | exact HB.out | apply below_alloc | apply pw_below_drewN | apply below_drew1) | exact HB.out)⟩

/-- THE ONE PURE STATEMENT of letterboxlaw05_LinesWithin: yours. -/
def letterboxlaw05_LinesWithin.Pure : Prop := ∀ (l0 : List Int) (a1 : Int) (a2 : Int), l0.length ≤ maxLen → l0.length * 1 ≤ 140737488351232 → (∀ x ∈ l0, (Lit.int .u8 x).wf = true) → (Lit.int .i64 a1).wf = true → (Lit.int .i64 a2).wf = true → ∃ k, letterboxlaw05_LinesWithin.f k l0 a1 a2 = some true
theorem letterboxlaw05_LinesWithin.walk (P : letterboxlaw05_LinesWithin.Pure) (a0 : Option Addr) (len0 cap0 : Nat) (z0 : List Int) (a1 : Int) (a2 : Int) (w : World) (w0 : (a0 = none ∧ len0 = 0 ∧ cap0 = 0 ∧ z0 = []) ∨ ∃ x, a0 = some x ∧ len0 ≤ cap0 ∧ cap0 ≤ maxLen ∧ z0.length = cap0 ∧ (∀ i, i < z0.length → w.cell? (x.add i) = some (.int .u8 (z0.getD i 0))) ∧ ∀ n ∈ z0, (Lit.int .u8 n).wf = true) (y0 : len0 * 1 ≤ 140737488351232) (w1 : (Lit.int .i64 a1).wf = true) (w2 : (Lit.int .i64 a2).wf = true) :
    Calls Try.prog 6 #[.slice a0 len0 cap0, .int .i64 a1, .int .i64 a2] w fun e w' => e = .returned (.bool true) ∧ Below w.heap.size w w' := by
  obtain ⟨l0, rfl, hr0, hm0, hw0, hc0⟩ := ReadsInt.ofRowC w0
  obtain ⟨k, h⟩ := P l0 a1 a2 hm0 y0 hw0 w1 w2
  refine (letterboxlaw05_LinesWithin.calls k _ _ l0 a1 a2 true w (Kd.C_of_reads (d := (0 : Int)) (h1 := fun _ => rfl) hr0) hc0 h).mono ?_
  rintro e w' ⟨rfl, hd⟩
  exact ⟨rfl, hd⟩

end Go.Proofs.Ytfpdamppppbkiaa.P
