-- Written by a program of this session (wip/tools/mk.sh) for this claim: it runs the kit's print with contracts of our own. Lean checks it.
import Derived.Test.YtmbiggcapakjjaaDoorPx0
import Derived.Test.YtmbiggcapakjjaaDoorWRepsOne
import Derived.Test.YtmbiggcapakjjaaDoorZSplit
import Derived.Test.YtmbiggcapakjjaaDoorPx5
import Derived.Test.YtmbiggcapakjjaaDoorPx6
import Derived.Test.YtmbiggcapakjjaaDoorPx7
import Derived.Test.YtmbiggcapakjjaaDoorPx10
import Derived.Test.YtmbiggcapakjjaaDoorPx14
import Derived.Test.YtmbiggcapakjjaaDoorPx15
import Derived.Test.YtmbiggcapakjjaaDoorPx16
namespace Go.Proofs.YtmbiggcapakjjaaDoor.P
open Go.RowKit Go.Proofs.YtmbiggcapakjjaaDoorW.PrintWords Go.Proofs.YtmbiggcapakjjaaDoorW.PrintLast Go.Proofs.YtmbiggcapakjjaaDoorW.PrintMore
attribute [-simp] Int.tmod_tmod_of_dvd
attribute [local go_sem] max2_int min2_int max_two min_two max_three min_three max_four min_four   -- for this text's walks alone
set_option linter.unusedVariables false
set_option linter.unusedSimpArgs false

/-! ### letterboxlaw11_DateParses: function 3 -/
def letterboxlaw11_DateParses.f (k : Nat) (a0 : ByteArray) : Option (Bool) := (letterboxlaw11_awake.f).bind fun t329 => (if t329 = true then (if (a0.size : Int) > 200 then (some true) else ((date_Parse.f k a0).bind fun bt330 => ((letterboxref11_Parse.f k a0).bind fun bt334 => ((date_ParseInternal.f k a0).bind fun bt338 => ((letterboxref11_ParseInternal.f k a0).bind fun bt342 => ((date_ParseDay.f k a0).bind fun bt346 => ((letterboxref11_ParseDay.f k a0).bind fun bt348 => (if bt330.1 = bt334.1 then (if bt330.2.1 = bt334.2.1 then (if (bt330.2.2 == bt334.2.2) = true then (if bt338.1 = bt342.1 then (if bt338.2.1 = bt342.2.1 then (if (bt338.2.2 == bt342.2.2) = true then (if bt346.1 = bt348.1 then (some (bt346.2 == bt348.2)) else (some false)) else (some false)) else (some false)) else (some false)) else (some false)) else (some false)) else (some false))))))))) else (some false))
theorem letterboxlaw11_DateParses.mono : ∀ a0 k, LeO (letterboxlaw11_DateParses.f k a0) (letterboxlaw11_DateParses.f (k + 1) a0) := by
 intro a0 k
 unfold letterboxlaw11_DateParses.f
 repeat' first
   | (with_reducible exact date_Parse.mono _ _)
   | (with_reducible exact date_ParseDay.mono _ _)
   | (with_reducible exact date_ParseInternal.mono _ _)
   | (with_reducible exact letterboxref11_Parse.mono _ _)
   | (with_reducible exact letterboxref11_ParseDay.mono _ _)
   | (with_reducible exact letterboxref11_ParseInternal.mono _ _)
   | (with_reducible exact LeO.refl _)
   | (with_reducible exact LeO.none _)
   | (with_reducible refine LeO.ite ?_ ?_)
   | (with_reducible refine LeO.bind ?_ (fun _ => ?_))
   | exact date_Parse.mono _ _
   | exact date_ParseDay.mono _ _
   | exact date_ParseInternal.mono _ _
   | exact letterboxref11_Parse.mono _ _
   | exact letterboxref11_ParseDay.mono _ _
   | exact letterboxref11_ParseInternal.mono _ _
   | exact LeO.none _
   | refine LeO.ite ?_ ?_
   | refine LeO.bind ?_ (fun _ => ?_)
set_option maxHeartbeats 8000000 in
set_option maxRecDepth 100000 in
theorem letterboxlaw11_DateParses.calls (k : Nat) (a0 : ByteArray) (r : Bool) (hrt : r = true) (w : World) (h : letterboxlaw11_DateParses.f k a0 = some r) (hL0 : mo_Words w := by first | exact hL0 | exact mo_Words.below hL0 (by repeat (first | (with_reducible first | exact HB.out | apply below_alloc | apply pw_below_drewN | apply below_drew1 | refine below_set ?_ (Aside0.out (by assumption))) | exact HB.out))) :
  Calls Tryd.prog 3 #[.string a0] w fun e w' => e = .returned (.bool r) ∧ Below w.heap.size w w' := by
 have hu24 := Tryd.underlying24
 have hu27 := Tryd.underlying27
 have HB := Aside0.mk (Below.refl w.heap.size w)
 have H : ((letterboxlaw11_awake.f).bind fun t329 => (if t329 = true then (if (a0.size : Int) > 200 then (some true) else ((date_Parse.f k a0).bind fun bt330 => ((letterboxref11_Parse.f k a0).bind fun bt334 => ((date_ParseInternal.f k a0).bind fun bt338 => ((letterboxref11_ParseInternal.f k a0).bind fun bt342 => ((date_ParseDay.f k a0).bind fun bt346 => ((letterboxref11_ParseDay.f k a0).bind fun bt348 => (if bt330.1 = bt334.1 then (if bt330.2.1 = bt334.2.1 then (if (bt330.2.2 == bt334.2.2) = true then (if bt338.1 = bt342.1 then (if bt338.2.1 = bt342.2.1 then (if (bt338.2.2 == bt342.2.2) = true then (if bt346.1 = bt348.1 then (some (bt346.2 == bt348.2)) else (some false)) else (some false)) else (some false)) else (some false)) else (some false)) else (some false)) else (some false))))))))) else (some false))) = some r := h
 clear h
 replace H := Option.bind_eq_some_iff.mp H
 obtain ⟨t329, A20, H⟩ := H
 replace H : (if t329 = true then (if (a0.size : Int) > 200 then (some true) else ((date_Parse.f k a0).bind fun bt330 => ((letterboxref11_Parse.f k a0).bind fun bt334 => ((date_ParseInternal.f k a0).bind fun bt338 => ((letterboxref11_ParseInternal.f k a0).bind fun bt342 => ((date_ParseDay.f k a0).bind fun bt346 => ((letterboxref11_ParseDay.f k a0).bind fun bt348 => (if bt330.1 = bt334.1 then (if bt330.2.1 = bt334.2.1 then (if (bt330.2.2 == bt334.2.2) = true then (if bt338.1 = bt342.1 then (if bt338.2.1 = bt342.2.1 then (if (bt338.2.2 == bt342.2.2) = true then (if bt346.1 = bt348.1 then (some (bt346.2 == bt348.2)) else (some false)) else (some false)) else (some false)) else (some false)) else (some false)) else (some false)) else (some false))))))))) else (some false)) = some r := H
 have A2 := Aside0.mk A20
 clear A20
 by_cases c3 : t329 = true
 ·subst c3
  have H1 : (if (a0.size : Int) > 200 then (some true) else ((date_Parse.f k a0).bind fun bt330 => ((letterboxref11_Parse.f k a0).bind fun bt334 => ((date_ParseInternal.f k a0).bind fun bt338 => ((letterboxref11_ParseInternal.f k a0).bind fun bt342 => ((date_ParseDay.f k a0).bind fun bt346 => ((letterboxref11_ParseDay.f k a0).bind fun bt348 => (if bt330.1 = bt334.1 then (if bt330.2.1 = bt334.2.1 then (if (bt330.2.2 == bt334.2.2) = true then (if bt338.1 = bt342.1 then (if bt338.2.1 = bt342.2.1 then (if (bt338.2.2 == bt342.2.2) = true then (if bt346.1 = bt348.1 then (some (bt346.2 == bt348.2)) else (some false)) else (some false)) else (some false)) else (some false)) else (some false)) else (some false)) else (some false))))))))) = some r := by rw [if_pos rfl] at H; exact H
  clear H
  have H := H1
  clear H1
  by_cases c4 : (a0.size : Int) > 200
  ·rw [if_pos c4] at H
   have c4b0 : decide (200 < (a0.size : Int)) = true := decide_eq_true c4
   have c4b1 : decide (200 < a0.size) = true := decide_eq_true (by omega)
   clear c4
   obtain rfl := Option.some.inj H
   go_enter Tryd.func3, Tryd.ntmps3
   go_wp2_with (first | ((with_reducible refine gate_callee (f := 7) rfl ?_); refine goesL_ (some 16) rfl rfl Tryd.func7 (by kernel_rfl) rfl #[] rfl qa_ ?_; (with_reducible refine (letterboxlaw11_awake.calls  true _ A2.out).mono ?_); rintro e w5 ⟨rfl, hb⟩; refine ⟨_, rfl, ?_⟩; have n0_ := Aside0.mk (below_step (qb_ HB.out) hb); clear HB; have HB := n0_; clear n0_; (try clear hb); (try clear hb2); (try clear hk); (try clear hi)))
   go_ret
   exact ⟨qw_, qb_ HB.out⟩
  ·rw [if_neg c4] at H
   have c4b0 : decide (200 < (a0.size : Int)) = false := decide_eq_false c4
   have c4b1 : decide (200 < a0.size) = false := decide_eq_false (by omega)
   clear c4
   replace H := Option.bind_eq_some_iff.mp H
   obtain ⟨⟨t330, t331, t332⟩, A60, H⟩ := H
   replace H : ((letterboxref11_Parse.f k a0).bind fun bt334 => ((date_ParseInternal.f k a0).bind fun bt338 => ((letterboxref11_ParseInternal.f k a0).bind fun bt342 => ((date_ParseDay.f k a0).bind fun bt346 => ((letterboxref11_ParseDay.f k a0).bind fun bt348 => (if t330 = bt334.1 then (if t331 = bt334.2.1 then (if (t332 == bt334.2.2) = true then (if bt338.1 = bt342.1 then (if bt338.2.1 = bt342.2.1 then (if (bt338.2.2 == bt342.2.2) = true then (if bt346.1 = bt348.1 then (some (bt346.2 == bt348.2)) else (some false)) else (some false)) else (some false)) else (some false)) else (some false)) else (some false)) else (some false))))))) = some r := H
   have A6 := Aside0.mk A60
   clear A60
   replace H := Option.bind_eq_some_iff.mp H
   obtain ⟨⟨t334, t335, t336⟩, A70, H⟩ := H
   replace H : ((date_ParseInternal.f k a0).bind fun bt338 => ((letterboxref11_ParseInternal.f k a0).bind fun bt342 => ((date_ParseDay.f k a0).bind fun bt346 => ((letterboxref11_ParseDay.f k a0).bind fun bt348 => (if t330 = t334 then (if t331 = t335 then (if (t332 == t336) = true then (if bt338.1 = bt342.1 then (if bt338.2.1 = bt342.2.1 then (if (bt338.2.2 == bt342.2.2) = true then (if bt346.1 = bt348.1 then (some (bt346.2 == bt348.2)) else (some false)) else (some false)) else (some false)) else (some false)) else (some false)) else (some false)) else (some false)))))) = some r := H
   have A7 := Aside0.mk A70
   clear A70
   replace H := Option.bind_eq_some_iff.mp H
   obtain ⟨⟨t338, t339, t340⟩, A80, H⟩ := H
   replace H : ((letterboxref11_ParseInternal.f k a0).bind fun bt342 => ((date_ParseDay.f k a0).bind fun bt346 => ((letterboxref11_ParseDay.f k a0).bind fun bt348 => (if t330 = t334 then (if t331 = t335 then (if (t332 == t336) = true then (if t338 = bt342.1 then (if t339 = bt342.2.1 then (if (t340 == bt342.2.2) = true then (if bt346.1 = bt348.1 then (some (bt346.2 == bt348.2)) else (some false)) else (some false)) else (some false)) else (some false)) else (some false)) else (some false)) else (some false))))) = some r := H
   have A8 := Aside0.mk A80
   clear A80
   replace H := Option.bind_eq_some_iff.mp H
   obtain ⟨⟨t342, t343, t344⟩, A90, H⟩ := H
   replace H : ((date_ParseDay.f k a0).bind fun bt346 => ((letterboxref11_ParseDay.f k a0).bind fun bt348 => (if t330 = t334 then (if t331 = t335 then (if (t332 == t336) = true then (if t338 = t342 then (if t339 = t343 then (if (t340 == t344) = true then (if bt346.1 = bt348.1 then (some (bt346.2 == bt348.2)) else (some false)) else (some false)) else (some false)) else (some false)) else (some false)) else (some false)) else (some false)))) = some r := H
   have A9 := Aside0.mk A90
   clear A90
   replace H := Option.bind_eq_some_iff.mp H
   obtain ⟨⟨t346, t347⟩, A100, H⟩ := H
   replace H : ((letterboxref11_ParseDay.f k a0).bind fun bt348 => (if t330 = t334 then (if t331 = t335 then (if (t332 == t336) = true then (if t338 = t342 then (if t339 = t343 then (if (t340 == t344) = true then (if t346 = bt348.1 then (some (t347 == bt348.2)) else (some false)) else (some false)) else (some false)) else (some false)) else (some false)) else (some false)) else (some false))) = some r := H
   have A10 := Aside0.mk A100
   clear A100
   replace H := Option.bind_eq_some_iff.mp H
   obtain ⟨⟨t348, t349⟩, A110, H⟩ := H
   replace H : (if t330 = t334 then (if t331 = t335 then (if (t332 == t336) = true then (if t338 = t342 then (if t339 = t343 then (if (t340 == t344) = true then (if t346 = t348 then (some (t347 == t349)) else (some false)) else (some false)) else (some false)) else (some false)) else (some false)) else (some false)) else (some false)) = some r := H
   have A11 := Aside0.mk A110
   clear A110
   by_cases c12 : t330 = t334
   ·rw [if_pos c12] at H
    have c12b0 : (t330 == t334) = true := beq_iff_eq.mpr c12
    have c12b1 : (t330 != t334) = false := bne_eq_false_iff_eq.mpr c12
    clear c12
    by_cases c13 : t331 = t335
    ·rw [if_pos c13] at H
     have c13b0 : (t331 == t335) = true := beq_iff_eq.mpr c13
     have c13b1 : (t331 != t335) = false := bne_eq_false_iff_eq.mpr c13
     clear c13
     by_cases c14 : (t332 == t336) = true
     ·rw [if_pos c14] at H
      have c14b0 : (t332 == t336) = true := c14
      (try (have c14b1 : decide (t332 = t336) = true := by simpa using c14))
      (try (have c14b2 : (t332 == t336) = true := by simpa using c14))
      clear c14
      by_cases c15 : t338 = t342
      ·rw [if_pos c15] at H
       have c15b0 : (t338 == t342) = true := beq_iff_eq.mpr c15
       have c15b1 : (t338 != t342) = false := bne_eq_false_iff_eq.mpr c15
       clear c15
       by_cases c16 : t339 = t343
       ·rw [if_pos c16] at H
        have c16b0 : (t339 == t343) = true := beq_iff_eq.mpr c16
        have c16b1 : (t339 != t343) = false := bne_eq_false_iff_eq.mpr c16
        clear c16
        by_cases c17 : (t340 == t344) = true
        ·rw [if_pos c17] at H
         have c17b0 : (t340 == t344) = true := c17
         (try (have c17b1 : decide (t340 = t344) = true := by simpa using c17))
         (try (have c17b2 : (t340 == t344) = true := by simpa using c17))
         clear c17
         by_cases c18 : t346 = t348
         ·rw [if_pos c18] at H
          have c18b0 : (t346 == t348) = true := beq_iff_eq.mpr c18
          have c18b1 : (t346 != t348) = false := bne_eq_false_iff_eq.mpr c18
          clear c18
          obtain rfl := Option.some.inj H
          go_enter Tryd.func3, Tryd.ntmps3
          go_wp2_with (first | ((with_reducible refine gate_callee (f := 7) rfl ?_); refine goesL_ (some 16) rfl rfl Tryd.func7 (by kernel_rfl) rfl #[] rfl qa_ ?_; (with_reducible refine (letterboxlaw11_awake.calls  true _ A2.out).mono ?_); rintro e w19 ⟨rfl, hb⟩; refine ⟨_, rfl, ?_⟩; have n0_ := Aside0.mk (below_step (qb_ HB.out) hb); clear HB; have HB := n0_; clear n0_; (try clear hb); (try clear hb2); (try clear hk); (try clear hi)) | ((with_reducible refine gate_callee (f := 8) rfl ?_); refine goesL_ (some 24) rfl rfl Tryd.func8 (by kernel_rfl) rfl #[.string a0] rfl qa_ ?_; (with_reducible refine (date_Parse.calls k a0 t330 t331 t332 _ A6.out).mono ?_); rintro e w20 ⟨rfl, hb⟩; refine ⟨_, rfl, ?_⟩; have n0_ := Aside0.mk (below_step (qb_ HB.out) hb); clear HB; have HB := n0_; clear n0_; (try clear hb); (try clear hb2); (try clear hk); (try clear hi)) | ((with_reducible refine gate_dst (N := 4) rfl ?_); refine box_event ?hg (N := 4) ?hd (cs := #[.int .i64 0, .int .i64 0]) (t := 24) ?hr ?_; (case hd => rfl); (case hg => rfl); (case hr => first | (go_simp; done) | (go_simp; rfl)); intro gb333 hg w21 hbox hb; have n0_ := Aside0.mk (below_step (qb_ HB.out) hb); have n1_ := Aside0.mk (hbox); have n2_ := Aside0.mk ((by rw [hg]; exact (below_size (qb_ HB.out)) : w.heap.size ≤ gb333)); have n3_ := Aside0.mk ((by rw [hg]; exact (below_size (qb_ HB.out)) : w.heap.size ≤ gb333)); clear HB; have HB := n0_; have BK333 := n1_; have GW333 := n2_; have GE333 := n3_; clear n0_ n1_ n2_ n3_; clear hb hbox hg; have hcz22_0 : w21.cell? ⟨gb333, 0, none⟩ = some (.int .i64 0) := (blk_cell BK333.out 0).trans rfl; have hcz22_1 : w21.cell? ⟨gb333, 1, none⟩ = some (.int .i64 0) := (blk_cell BK333.out 1).trans rfl; have hfz22_0 := blk_frozen BK333.out 0; have hfz22_1 := blk_frozen BK333.out 1) | ((with_reducible refine gate_callee (f := 9) rfl ?_); refine goesL_ (some 29) rfl rfl Tryd.func9 (by kernel_rfl) rfl #[.string a0] rfl qa_ ?_; (with_reducible refine (letterboxref11_Parse.calls k a0 t334 t335 t336 _ A7.out).mono ?_); rintro e w23 ⟨rfl, hb⟩; refine ⟨_, rfl, ?_⟩; have n0_ := Aside0.mk (blk_below (g := gb333) (o := .cells #[.int .i64 t330, .int .i64 t331] 24 (0, 0)) (qs2_ (qk_ BK333.out)) hb); have n1_ := Aside0.mk (below_step (qb_ HB.out) hb); clear BK333; clear HB; have BK333 := n0_; have HB := n1_; clear n0_ n1_; (try clear hb); (try clear hb2); (try clear hk); (try clear hi)) | ((with_reducible refine gate_dst (N := 6) rfl ?_); refine box_event ?hg (N := 6) ?hd (cs := #[.int .i64 0, .int .i64 0]) (t := 27) ?hr ?_; (case hd => rfl); (case hg => rfl); (case hr => first | (go_simp; done) | (go_simp; rfl)); intro gb337 hg w24 hbox hb; have n0_ := Aside0.mk (blk_below (g := gb333) (o := .cells #[.int .i64 t330, .int .i64 t331] 24 (0, 0)) (qk_ BK333.out) hb); have n1_ := Aside0.mk (below_step (qb_ HB.out) hb); have n2_ := Aside0.mk (hbox); have n3_ := Aside0.mk ((by rw [hg]; exact (below_size (qb_ HB.out)) : w.heap.size ≤ gb337)); have n4_ := Aside0.mk ((by rw [hg]; exact (below_size (qb_ HB.out)) : w.heap.size ≤ gb337)); have n5_ := Aside0.mk ((by rw [hg]; exact Nat.ne_of_lt (blk_lt (g := gb333) (o := .cells #[.int .i64 t330, .int .i64 t331] 24 (0, 0)) (qk_ BK333.out)) : gb333 ≠ gb337)); have n6_ := Aside0.mk ((by rw [hg]; exact Nat.ne_of_gt (blk_lt (g := gb333) (o := .cells #[.int .i64 t330, .int .i64 t331] 24 (0, 0)) (qk_ BK333.out)) : gb337 ≠ gb333)); clear BK333; clear HB; have BK333 := n0_; have HB := n1_; have BK337 := n2_; have GW337 := n3_; have GE337 := n4_; have NB333_337 := n5_; have NB337_333 := n6_; clear n0_ n1_ n2_ n3_ n4_ n5_ n6_; clear hb hbox hg; have hnb25 := NB337_333.out; have hnc25 := NB333_337.out; have hcz26_0 : w24.cell? ⟨gb337, 0, none⟩ = some (.int .i64 0) := (blk_cell BK337.out 0).trans rfl; have hcz26_1 : w24.cell? ⟨gb337, 1, none⟩ = some (.int .i64 0) := (blk_cell BK337.out 1).trans rfl; have hfz26_0 := blk_frozen BK337.out 0; have hfz26_1 := blk_frozen BK337.out 1) | ((with_reducible refine gate_callee (f := 10) rfl ?_); refine goesL_ (some 34) rfl rfl Tryd.func10 (by kernel_rfl) rfl #[.string a0] rfl qa_ ?_; (with_reducible refine (date_ParseInternal.calls k a0 t338 t339 t340 _ A8.out).mono ?_); rintro e w27 ⟨rfl, hb⟩; refine ⟨_, rfl, ?_⟩; have n0_ := Aside0.mk (blk_below (g := gb333) (o := .cells #[.int .i64 t330, .int .i64 t331] 24 (0, 0)) (by (with_reducible repeat (first | refine blk_drewN ?_ _ | refine blk_drew ?_ | refine blk_alloc ?_ _)); refine blk_far ?_ NB333_337.out _; (with_reducible repeat (first | refine blk_drewN ?_ _ | refine blk_drew ?_ | refine blk_alloc ?_ _)); refine blk_far ?_ NB333_337.out _; (with_reducible repeat (first | refine blk_drewN ?_ _ | refine blk_drew ?_ | refine blk_alloc ?_ _)); exact BK333.out) hb); have n1_ := Aside0.mk (blk_below (g := gb337) (o := .cells #[.int .i64 t334, .int .i64 t335] 27 (0, 0)) (qs2_ (qk_ BK337.out)) hb); have n2_ := Aside0.mk (below_step (qb_ HB.out) hb); clear BK333; clear BK337; clear HB; have BK333 := n0_; have BK337 := n1_; have HB := n2_; clear n0_ n1_ n2_; (try clear hb); (try clear hb2); (try clear hk); (try clear hi)) | ((with_reducible refine gate_dst (N := 8) rfl ?_); refine box_event ?hg (N := 8) ?hd (cs := #[.int .i64 0, .int .i64 0]) (t := 24) ?hr ?_; (case hd => rfl); (case hg => rfl); (case hr => first | (go_simp; done) | (go_simp; rfl)); intro gb341 hg w28 hbox hb; have n0_ := Aside0.mk (blk_below (g := gb333) (o := .cells #[.int .i64 t330, .int .i64 t331] 24 (0, 0)) (qk_ BK333.out) hb); have n1_ := Aside0.mk (blk_below (g := gb337) (o := .cells #[.int .i64 t334, .int .i64 t335] 27 (0, 0)) (qk_ BK337.out) hb); have n2_ := Aside0.mk (below_step (qb_ HB.out) hb); have n3_ := Aside0.mk (hbox); have n4_ := Aside0.mk ((by rw [hg]; exact (below_size (qb_ HB.out)) : w.heap.size ≤ gb341)); have n5_ := Aside0.mk ((by rw [hg]; exact (below_size (qb_ HB.out)) : w.heap.size ≤ gb341)); have n6_ := Aside0.mk ((by rw [hg]; exact Nat.ne_of_lt (blk_lt (g := gb333) (o := .cells #[.int .i64 t330, .int .i64 t331] 24 (0, 0)) (qk_ BK333.out)) : gb333 ≠ gb341)); have n7_ := Aside0.mk ((by rw [hg]; exact Nat.ne_of_gt (blk_lt (g := gb333) (o := .cells #[.int .i64 t330, .int .i64 t331] 24 (0, 0)) (qk_ BK333.out)) : gb341 ≠ gb333)); have n8_ := Aside0.mk ((by rw [hg]; exact Nat.ne_of_lt (blk_lt (g := gb337) (o := .cells #[.int .i64 t334, .int .i64 t335] 27 (0, 0)) (qk_ BK337.out)) : gb337 ≠ gb341)); have n9_ := Aside0.mk ((by rw [hg]; exact Nat.ne_of_gt (blk_lt (g := gb337) (o := .cells #[.int .i64 t334, .int .i64 t335] 27 (0, 0)) (qk_ BK337.out)) : gb341 ≠ gb337)); clear BK333; clear BK337; clear HB; have BK333 := n0_; have BK337 := n1_; have HB := n2_; have BK341 := n3_; have GW341 := n4_; have GE341 := n5_; have NB333_341 := n6_; have NB341_333 := n7_; have NB337_341 := n8_; have NB341_337 := n9_; clear n0_ n1_ n2_ n3_ n4_ n5_ n6_ n7_ n8_ n9_; clear hb hbox hg; have hnb29 := NB341_333.out; have hnc29 := NB333_341.out; have hnb30 := NB341_337.out; have hnc30 := NB337_341.out; have hcz31_0 : w28.cell? ⟨gb341, 0, none⟩ = some (.int .i64 0) := (blk_cell BK341.out 0).trans rfl; have hcz31_1 : w28.cell? ⟨gb341, 1, none⟩ = some (.int .i64 0) := (blk_cell BK341.out 1).trans rfl; have hfz31_0 := blk_frozen BK341.out 0; have hfz31_1 := blk_frozen BK341.out 1) | ((with_reducible refine gate_callee (f := 11) rfl ?_); refine goesL_ (some 39) rfl rfl Tryd.func11 (by kernel_rfl) rfl #[.string a0] rfl qa_ ?_; (with_reducible refine (letterboxref11_ParseInternal.calls k a0 t342 t343 t344 _ A9.out).mono ?_); rintro e w32 ⟨rfl, hb⟩; refine ⟨_, rfl, ?_⟩; have n0_ := Aside0.mk (blk_below (g := gb333) (o := .cells #[.int .i64 t330, .int .i64 t331] 24 (0, 0)) (by (with_reducible repeat (first | refine blk_drewN ?_ _ | refine blk_drew ?_ | refine blk_alloc ?_ _)); refine blk_far ?_ NB333_341.out _; (with_reducible repeat (first | refine blk_drewN ?_ _ | refine blk_drew ?_ | refine blk_alloc ?_ _)); refine blk_far ?_ NB333_341.out _; (with_reducible repeat (first | refine blk_drewN ?_ _ | refine blk_drew ?_ | refine blk_alloc ?_ _)); exact BK333.out) hb); have n1_ := Aside0.mk (blk_below (g := gb337) (o := .cells #[.int .i64 t334, .int .i64 t335] 27 (0, 0)) (by (with_reducible repeat (first | refine blk_drewN ?_ _ | refine blk_drew ?_ | refine blk_alloc ?_ _)); refine blk_far ?_ NB337_341.out _; (with_reducible repeat (first | refine blk_drewN ?_ _ | refine blk_drew ?_ | refine blk_alloc ?_ _)); refine blk_far ?_ NB337_341.out _; (with_reducible repeat (first | refine blk_drewN ?_ _ | refine blk_drew ?_ | refine blk_alloc ?_ _)); exact BK337.out) hb); have n2_ := Aside0.mk (blk_below (g := gb341) (o := .cells #[.int .i64 t338, .int .i64 t339] 24 (0, 0)) (qs2_ (qk_ BK341.out)) hb); have n3_ := Aside0.mk (below_step (qb_ HB.out) hb); clear BK333; clear BK337; clear BK341; clear HB; have BK333 := n0_; have BK337 := n1_; have BK341 := n2_; have HB := n3_; clear n0_ n1_ n2_ n3_; (try clear hb); (try clear hb2); (try clear hk); (try clear hi)) | ((with_reducible refine gate_dst (N := 10) rfl ?_); refine box_event ?hg (N := 10) ?hd (cs := #[.int .i64 0, .int .i64 0]) (t := 27) ?hr ?_; (case hd => rfl); (case hg => rfl); (case hr => first | (go_simp; done) | (go_simp; rfl)); intro gb345 hg w33 hbox hb; have n0_ := Aside0.mk (blk_below (g := gb333) (o := .cells #[.int .i64 t330, .int .i64 t331] 24 (0, 0)) (qk_ BK333.out) hb); have n1_ := Aside0.mk (blk_below (g := gb337) (o := .cells #[.int .i64 t334, .int .i64 t335] 27 (0, 0)) (qk_ BK337.out) hb); have n2_ := Aside0.mk (blk_below (g := gb341) (o := .cells #[.int .i64 t338, .int .i64 t339] 24 (0, 0)) (qk_ BK341.out) hb); have n3_ := Aside0.mk (below_step (qb_ HB.out) hb); have n4_ := Aside0.mk (hbox); have n5_ := Aside0.mk ((by rw [hg]; exact (below_size (qb_ HB.out)) : w.heap.size ≤ gb345)); have n6_ := Aside0.mk ((by rw [hg]; exact (below_size (qb_ HB.out)) : w.heap.size ≤ gb345)); have n7_ := Aside0.mk ((by rw [hg]; exact Nat.ne_of_lt (blk_lt (g := gb333) (o := .cells #[.int .i64 t330, .int .i64 t331] 24 (0, 0)) (qk_ BK333.out)) : gb333 ≠ gb345)); have n8_ := Aside0.mk ((by rw [hg]; exact Nat.ne_of_gt (blk_lt (g := gb333) (o := .cells #[.int .i64 t330, .int .i64 t331] 24 (0, 0)) (qk_ BK333.out)) : gb345 ≠ gb333)); have n9_ := Aside0.mk ((by rw [hg]; exact Nat.ne_of_lt (blk_lt (g := gb337) (o := .cells #[.int .i64 t334, .int .i64 t335] 27 (0, 0)) (qk_ BK337.out)) : gb337 ≠ gb345)); have n10_ := Aside0.mk ((by rw [hg]; exact Nat.ne_of_gt (blk_lt (g := gb337) (o := .cells #[.int .i64 t334, .int .i64 t335] 27 (0, 0)) (qk_ BK337.out)) : gb345 ≠ gb337)); have n11_ := Aside0.mk ((by rw [hg]; exact Nat.ne_of_lt (blk_lt (g := gb341) (o := .cells #[.int .i64 t338, .int .i64 t339] 24 (0, 0)) (qk_ BK341.out)) : gb341 ≠ gb345)); have n12_ := Aside0.mk ((by rw [hg]; exact Nat.ne_of_gt (blk_lt (g := gb341) (o := .cells #[.int .i64 t338, .int .i64 t339] 24 (0, 0)) (qk_ BK341.out)) : gb345 ≠ gb341)); clear BK333; clear BK337; clear BK341; clear HB; have BK333 := n0_; have BK337 := n1_; have BK341 := n2_; have HB := n3_; have BK345 := n4_; have GW345 := n5_; have GE345 := n6_; have NB333_345 := n7_; have NB345_333 := n8_; have NB337_345 := n9_; have NB345_337 := n10_; have NB341_345 := n11_; have NB345_341 := n12_; clear n0_ n1_ n2_ n3_ n4_ n5_ n6_ n7_ n8_ n9_ n10_ n11_ n12_; clear hb hbox hg; have hnb34 := NB345_333.out; have hnc34 := NB333_345.out; have hnb35 := NB345_337.out; have hnc35 := NB337_345.out; have hnb36 := NB345_341.out; have hnc36 := NB341_345.out; have hcz37_0 : w33.cell? ⟨gb345, 0, none⟩ = some (.int .i64 0) := (blk_cell BK345.out 0).trans rfl; have hcz37_1 : w33.cell? ⟨gb345, 1, none⟩ = some (.int .i64 0) := (blk_cell BK345.out 1).trans rfl; have hfz37_0 := blk_frozen BK345.out 0; have hfz37_1 := blk_frozen BK345.out 1) | ((with_reducible refine gate_callee (f := 12) rfl ?_); refine goesL_ (some 44) rfl rfl Tryd.func12 (by kernel_rfl) rfl #[.string a0] rfl qa_ ?_; (with_reducible refine (date_ParseDay.calls k a0 t346 t347 _ A10.out).mono ?_); rintro e w38 ⟨rfl, hb⟩; refine ⟨_, rfl, ?_⟩; have n0_ := Aside0.mk (blk_below (g := gb333) (o := .cells #[.int .i64 t330, .int .i64 t331] 24 (0, 0)) (by (with_reducible repeat (first | refine blk_drewN ?_ _ | refine blk_drew ?_ | refine blk_alloc ?_ _)); refine blk_far ?_ NB333_345.out _; (with_reducible repeat (first | refine blk_drewN ?_ _ | refine blk_drew ?_ | refine blk_alloc ?_ _)); refine blk_far ?_ NB333_345.out _; (with_reducible repeat (first | refine blk_drewN ?_ _ | refine blk_drew ?_ | refine blk_alloc ?_ _)); exact BK333.out) hb); have n1_ := Aside0.mk (blk_below (g := gb337) (o := .cells #[.int .i64 t334, .int .i64 t335] 27 (0, 0)) (by (with_reducible repeat (first | refine blk_drewN ?_ _ | refine blk_drew ?_ | refine blk_alloc ?_ _)); refine blk_far ?_ NB337_345.out _; (with_reducible repeat (first | refine blk_drewN ?_ _ | refine blk_drew ?_ | refine blk_alloc ?_ _)); refine blk_far ?_ NB337_345.out _; (with_reducible repeat (first | refine blk_drewN ?_ _ | refine blk_drew ?_ | refine blk_alloc ?_ _)); exact BK337.out) hb); have n2_ := Aside0.mk (blk_below (g := gb341) (o := .cells #[.int .i64 t338, .int .i64 t339] 24 (0, 0)) (by (with_reducible repeat (first | refine blk_drewN ?_ _ | refine blk_drew ?_ | refine blk_alloc ?_ _)); refine blk_far ?_ NB341_345.out _; (with_reducible repeat (first | refine blk_drewN ?_ _ | refine blk_drew ?_ | refine blk_alloc ?_ _)); refine blk_far ?_ NB341_345.out _; (with_reducible repeat (first | refine blk_drewN ?_ _ | refine blk_drew ?_ | refine blk_alloc ?_ _)); exact BK341.out) hb); have n3_ := Aside0.mk (blk_below (g := gb345) (o := .cells #[.int .i64 t342, .int .i64 t343] 27 (0, 0)) (qs2_ (qk_ BK345.out)) hb); have n4_ := Aside0.mk (below_step (qb_ HB.out) hb); clear BK333; clear BK337; clear BK341; clear BK345; clear HB; have BK333 := n0_; have BK337 := n1_; have BK341 := n2_; have BK345 := n3_; have HB := n4_; clear n0_ n1_ n2_ n3_ n4_; (try clear hb); (try clear hb2); (try clear hk); (try clear hi)) | ((with_reducible refine gate_callee (f := 13) rfl ?_); refine goesL_ (some 49) rfl rfl Tryd.func13 (by kernel_rfl) rfl #[.string a0] rfl qa_ ?_; (with_reducible refine (letterboxref11_ParseDay.calls k a0 t348 t349 _ A11.out).mono ?_); rintro e w39 ⟨rfl, hb⟩; refine ⟨_, rfl, ?_⟩; have n0_ := Aside0.mk (blk_below (g := gb333) (o := .cells #[.int .i64 t330, .int .i64 t331] 24 (0, 0)) (qk_ BK333.out) hb); have n1_ := Aside0.mk (blk_below (g := gb337) (o := .cells #[.int .i64 t334, .int .i64 t335] 27 (0, 0)) (qk_ BK337.out) hb); have n2_ := Aside0.mk (blk_below (g := gb341) (o := .cells #[.int .i64 t338, .int .i64 t339] 24 (0, 0)) (qk_ BK341.out) hb); have n3_ := Aside0.mk (blk_below (g := gb345) (o := .cells #[.int .i64 t342, .int .i64 t343] 27 (0, 0)) (qk_ BK345.out) hb); have n4_ := Aside0.mk (below_step (qb_ HB.out) hb); clear BK333; clear BK337; clear BK341; clear BK345; clear HB; have BK333 := n0_; have BK337 := n1_; have BK341 := n2_; have BK345 := n3_; have HB := n4_; clear n0_ n1_ n2_ n3_ n4_; (try clear hb); (try clear hb2); (try clear hk); (try clear hi); have hcz40_0 : w39.cell? ⟨gb333, 0, none⟩ = some (.int .i64 t330) := (blk_cell BK333.out 0).trans rfl; have hcz40_1 : w39.cell? ⟨gb333, 1, none⟩ = some (.int .i64 t331) := (blk_cell BK333.out 1).trans rfl; have hfz40_0 := blk_frozen BK333.out 0; have hfz40_1 := blk_frozen BK333.out 1; have hcz41_0 : w39.cell? ⟨gb337, 0, none⟩ = some (.int .i64 t334) := (blk_cell BK337.out 0).trans rfl; have hcz41_1 : w39.cell? ⟨gb337, 1, none⟩ = some (.int .i64 t335) := (blk_cell BK337.out 1).trans rfl; have hfz41_0 := blk_frozen BK337.out 0; have hfz41_1 := blk_frozen BK337.out 1; have hcz42_0 : w39.cell? ⟨gb341, 0, none⟩ = some (.int .i64 t338) := (blk_cell BK341.out 0).trans rfl; have hcz42_1 : w39.cell? ⟨gb341, 1, none⟩ = some (.int .i64 t339) := (blk_cell BK341.out 1).trans rfl; have hfz42_0 := blk_frozen BK341.out 0; have hfz42_1 := blk_frozen BK341.out 1; have hcz43_0 : w39.cell? ⟨gb345, 0, none⟩ = some (.int .i64 t342) := (blk_cell BK345.out 0).trans rfl; have hcz43_1 : w39.cell? ⟨gb345, 1, none⟩ = some (.int .i64 t343) := (blk_cell BK345.out 1).trans rfl; have hfz43_0 := blk_frozen BK345.out 0; have hfz43_1 := blk_frozen BK345.out 1))
          go_ret
          exact ⟨qw_, qb_ HB.out⟩
         · rw [if_neg c18, hrt] at H; exact absurd H (by simp)
        · rw [if_neg c17, hrt] at H; exact absurd H (by simp)
       · rw [if_neg c16, hrt] at H; exact absurd H (by simp)
      · rw [if_neg c15, hrt] at H; exact absurd H (by simp)
     · rw [if_neg c14, hrt] at H; exact absurd H (by simp)
    · rw [if_neg c13, hrt] at H; exact absurd H (by simp)
   · rw [if_neg c12, hrt] at H; exact absurd H (by simp)
 ·replace c3 := Bool.eq_false_iff.mpr c3
  subst c3
  have H1 : (some false) = some r := by rw [if_neg (show ¬ (false = true) by decide)] at H; exact H
  clear H
  have H := H1
  clear H1
  obtain rfl := Option.some.inj H
  go_enter Tryd.func3, Tryd.ntmps3
  go_wp2_with (first | ((with_reducible refine gate_callee (f := 7) rfl ?_); refine goesL_ (some 16) rfl rfl Tryd.func7 (by kernel_rfl) rfl #[] rfl qa_ ?_; (with_reducible refine (letterboxlaw11_awake.calls  false _ A2.out).mono ?_); rintro e w213 ⟨rfl, hb⟩; refine ⟨_, rfl, ?_⟩; have n0_ := Aside0.mk (below_step (qb_ HB.out) hb); clear HB; have HB := n0_; clear n0_; (try clear hb); (try clear hb2); (try clear hk); (try clear hi)))
  go_ret
  exact ⟨qw_, qb_ HB.out⟩

/-- THE ONE PURE STATEMENT of letterboxlaw11_DateParses: yours. -/
def letterboxlaw11_DateParses.Pure : Prop := ∀ (a0 : ByteArray), a0.size ≤ 140737488351232 → ∃ k, letterboxlaw11_DateParses.f k a0 = some true
theorem letterboxlaw11_DateParses.walk (P : letterboxlaw11_DateParses.Pure) (a0 : ByteArray) (w : World) (w0 : a0.size ≤ 140737488351232) (hL0 : mo_Words w) :
  Calls Tryd.prog 3 #[.string a0] w fun e w' => e = .returned (.bool true) ∧ Below w.heap.size w w' := by
 obtain ⟨k, h⟩ := P a0 w0
 refine (letterboxlaw11_DateParses.calls k a0 true rfl w h).mono ?_
 rintro e w' ⟨rfl, hd⟩
 exact ⟨rfl, hd⟩

end Go.Proofs.YtmbiggcapakjjaaDoor.P
