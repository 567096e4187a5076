-- Written by a program of this session (wip/tools/mk.sh) for this claim: it runs the kit's print with contracts of our own. Lean checks it.
import Derived.Test.YtbjbagocnnffaaaDoorPx0
import Derived.Test.YtbjbagocnnffaaaDoorWRepsOne
import Derived.Test.YtbjbagocnnffaaaDoorWTab
import Derived.Test.YtbjbagocnnffaaaDoorZStr
import Derived.Test.YtbjbagocnnffaaaDoorPx6
import Derived.Test.YtbjbagocnnffaaaDoorPx9
import Derived.Test.YtbjbagocnnffaaaDoorPx15
import Derived.Test.YtbjbagocnnffaaaDoorPx16
namespace Go.Proofs.YtbjbagocnnffaaaDoor.P
open Go.RowKit Go.Proofs.YtbjbagocnnffaaaDoorW.PrintWords Go.Proofs.YtbjbagocnnffaaaDoorW.PrintLast Go.Proofs.YtbjbagocnnffaaaDoorW.PrintMore
attribute [-simp] Int.tmod_tmod_of_dvd
attribute [local go_sem] max2_int min2_int max_two min_two max_three min_three max_four min_four   -- for this text's walks alone
set_option linter.unusedVariables false
set_option linter.unusedSimpArgs false

/-! ### letterboxlaw15_specOf: function 11 -/
def letterboxlaw15_specOf.f (l0_0 : List Int) (a0_1 : Int) (l0_2 : List ByteArray) (a0_3 : Bool) (a0_4 : Int) (a0_5 : Int) : Option (List Int × Int × List ByteArray × Bool × Int × Int) := some (l0_0, a0_1, l0_2, a0_3, a0_4, a0_5)
set_option maxHeartbeats 8000000 in
set_option maxRecDepth 100000 in
theorem letterboxlaw15_specOf.calls (P0_0_ : Nat → Prop) (u9000_ : Value) (l0_0 : List Int) (a0_1 : Int) (P0_2_ : Nat → Prop) (u9001_ : Value) (l0_2 : List ByteArray) (a0_3 : Bool) (a0_4 : Int) (a0_5 : Int) (r1 : List Int) (r2 : Int) (r3 : List ByteArray) (r4 : Bool) (r5 : Int) (r6 : Int) (w0 w : World) (hB : Below w0.heap.size w0 w) (ho0_0 : Kd.R (Kd.int .i64) 3 w w0.heap.size P0_0_ u9000_ l0_0) (ho0_2 : Kd.R Kd.string 9 w w0.heap.size P0_2_ u9001_ l0_2) (h : letterboxlaw15_specOf.f l0_0 a0_1 l0_2 a0_3 a0_4 a0_5 = some (r1, r2, r3, r4, r5, r6)) :
  Calls Tryd.prog 11 #[.agg #[u9000_, .int .i64 a0_1, u9001_, .bool a0_3, .int .i64 a0_4, .int .i64 a0_5]] w fun e w' => ∃ v0_ v2_ : Value, e = .returned (.agg #[v0_, .int .i64 r2, v2_, .bool r4, .int .i64 r5, .int .i64 r6]) ∧ Kd.R (Kd.int .i64) 3 w' w0.heap.size (fun k_ => ((P0_0_ k_ ∨ P0_2_ k_) ∨ w.heap.size ≤ k_)) v0_ r1 ∧ Kd.R Kd.string 9 w' w0.heap.size (fun k_ => ((P0_0_ k_ ∨ P0_2_ k_) ∨ w.heap.size ≤ k_)) v2_ r3 ∧ Below w0.heap.size w0 w' ∧ Kept w w' (fun k_ => P0_0_ k_ ∨ P0_2_ k_) := by
 have hu26 := Tryd.underlying26
 have hu30 := Tryd.underlying30
 have HO0_0 := Aside0.mk (show Kd.R (Kd.int .i64) 3 w w0.heap.size (fun k_ => ((P0_0_ k_ ∨ P0_2_ k_) ∨ w.heap.size ≤ k_)) u9000_ l0_0 from Kd.R_mono ho0_0 (fun k_ hk => (.inl (.inl hk))))
 have HO0_2 := Aside0.mk (show Kd.R Kd.string 9 w w0.heap.size (fun k_ => ((P0_0_ k_ ∨ P0_2_ k_) ∨ w.heap.size ≤ k_)) u9001_ l0_2 from Kd.R_mono ho0_2 (fun k_ hk => (.inl (.inr hk))))
 have HK := Aside0.mk (Kept.refl w (fun k_ => P0_0_ k_ ∨ P0_2_ k_))
 have HW0 := Aside0.mk hB.size
 have HB := Aside0.mk hB
 clear hB
 have H : (some (l0_0, a0_1, l0_2, a0_3, a0_4, a0_5)) = some (r1, r2, r3, r4, r5, r6) := h
 clear h
 simp only [Option.some.injEq, Prod.mk.injEq] at H
 obtain ⟨rfl, rfl, rfl, rfl, rfl, rfl⟩ := H
 obtain ⟨Ao2, co2, eo2⟩ := Kd.R_slice HO0_0.out
 subst eo2
 obtain ⟨Ao3, co3, eo3⟩ := Kd.R_slice HO0_2.out
 subst eo3
 go_enter Tryd.func11, Tryd.ntmps11
 go_wp2_with (first | ((with_reducible refine gate_dst (N := 1) rfl ?_); refine box_event ?hg (N := 1) ?hd (cs := #[.slice Ao2 l0_0.length co2, .int .i64 a0_1, .slice Ao3 l0_2.length co3, .bool a0_3, .int .i64 a0_4, .int .i64 a0_5]) (t := 26) ?hr ?_; (case hd => rfl); (case hg => rfl); (case hr => first | (go_simp; done) | (go_simp; rfl)); intro gb283 hg w4 hbox hb; have n0_ := Aside0.mk (Kd.R_below (ql_ HO0_0.out) hb); have n1_ := Aside0.mk (Kd.R_below (ql_ HO0_2.out) hb); have n2_ := Aside0.mk (Kept.below (S := (fun k_ => P0_0_ k_ ∨ P0_2_ k_)) (by repeat (first | (with_reducible first | exact HK.out | apply Kept.alloc | apply Kept.drewN | apply Kept.drew) | exact HK.out)) hb); have n3_ := Aside0.mk (below_step (qb_ HB.out) hb); have n4_ := Aside0.mk (hbox); have n5_ := Aside0.mk ((by rw [hg]; exact (by first | exact HK.out.1 | exact (show Kept w _ (fun k_ => P0_0_ k_ ∨ P0_2_ k_) from by repeat (first | (with_reducible first | exact HK.out | apply Kept.alloc | apply Kept.drewN | apply Kept.drew) | exact HK.out)).1) : w.heap.size ≤ gb283)); have n6_ := Aside0.mk ((by rw [hg]; exact (below_size (qb_ HB.out)) : w0.heap.size ≤ gb283)); clear HO0_0; clear HO0_2; clear HK; clear HB; have HO0_0 := n0_; have HO0_2 := n1_; have HK := n2_; have HB := n3_; have BK283 := n4_; have GW283 := n5_; have GE283 := n6_; clear n0_ n1_ n2_ n3_ n4_ n5_ n6_; clear hb hbox hg) | ((with_reducible refine gate_dst (N := 2) rfl ?_); refine box_event ?hg (N := 2) ?hd (cs := #[.slice none 0 0, .int .i64 0, .slice none 0 0, .bool false, .int .i64 0, .int .i64 0]) (t := 30) ?hr ?_; (case hd => rfl); (case hg => rfl); (case hr => first | (go_simp; done) | (go_simp; rfl)); intro gb284 hg w5 hbox hb; have n0_ := Aside0.mk (Kd.R_below (ql_ HO0_0.out) hb); have n1_ := Aside0.mk (Kd.R_below (ql_ HO0_2.out) hb); have n2_ := Aside0.mk (blk_below (g := gb283) (o := .cells #[.slice Ao2 l0_0.length co2, .int .i64 a0_1, .slice Ao3 l0_2.length co3, .bool a0_3, .int .i64 a0_4, .int .i64 a0_5] 26 (0, 0)) (qk_ BK283.out) hb); have n3_ := Aside0.mk (Kept.below (S := (fun k_ => P0_0_ k_ ∨ P0_2_ k_)) (by repeat (first | (with_reducible first | exact HK.out | apply Kept.alloc | apply Kept.drewN | apply Kept.drew | refine Kept.setCell ?_ (.inr GW283.out) _) | exact HK.out)) hb); have n4_ := Aside0.mk (below_step (qb_ HB.out) hb); have n5_ := Aside0.mk (hbox); have n6_ := Aside0.mk ((by rw [hg]; exact (by first | exact HK.out.1 | exact (show Kept w _ (fun k_ => P0_0_ k_ ∨ P0_2_ k_) from by repeat (first | (with_reducible first | exact HK.out | apply Kept.alloc | apply Kept.drewN | apply Kept.drew | refine Kept.setCell ?_ (.inr GW283.out) _) | exact HK.out)).1) : w.heap.size ≤ gb284)); have n7_ := Aside0.mk ((by rw [hg]; exact (below_size (qb_ HB.out)) : w0.heap.size ≤ gb284)); have n8_ := Aside0.mk ((by rw [hg]; exact Nat.ne_of_lt (blk_lt (g := gb283) (o := .cells #[.slice Ao2 l0_0.length co2, .int .i64 a0_1, .slice Ao3 l0_2.length co3, .bool a0_3, .int .i64 a0_4, .int .i64 a0_5] 26 (0, 0)) (qk_ BK283.out)) : gb283 ≠ gb284)); have n9_ := Aside0.mk ((by rw [hg]; exact Nat.ne_of_gt (blk_lt (g := gb283) (o := .cells #[.slice Ao2 l0_0.length co2, .int .i64 a0_1, .slice Ao3 l0_2.length co3, .bool a0_3, .int .i64 a0_4, .int .i64 a0_5] 26 (0, 0)) (qk_ BK283.out)) : gb284 ≠ gb283)); clear HO0_0; clear HO0_2; clear BK283; clear HK; clear HB; have HO0_0 := n0_; have HO0_2 := n1_; have BK283 := n2_; have HK := n3_; have HB := n4_; have BK284 := n5_; have GW284 := n6_; have GE284 := n7_; have NB283_284 := n8_; have NB284_283 := n9_; clear n0_ n1_ n2_ n3_ n4_ n5_ n6_ n7_ n8_ n9_; clear hb hbox hg; have hnb6 := NB283_284.out; have hnc6 := NB284_283.out; have hcz7_0 : w5.cell? ⟨gb283, 0, none⟩ = some (.slice Ao2 l0_0.length co2) := (blk_cell BK283.out 0).trans rfl; have hcz7_1 : w5.cell? ⟨gb283, 1, none⟩ = some (.int .i64 a0_1) := (blk_cell BK283.out 1).trans rfl; have hcz7_2 : w5.cell? ⟨gb283, 2, none⟩ = some (.slice Ao3 l0_2.length co3) := (blk_cell BK283.out 2).trans rfl; have hcz7_3 : w5.cell? ⟨gb283, 3, none⟩ = some (.bool a0_3) := (blk_cell BK283.out 3).trans rfl; have hcz7_4 : w5.cell? ⟨gb283, 4, none⟩ = some (.int .i64 a0_4) := (blk_cell BK283.out 4).trans rfl; have hcz7_5 : w5.cell? ⟨gb283, 5, none⟩ = some (.int .i64 a0_5) := (blk_cell BK283.out 5).trans rfl; have hfz7_0 := blk_frozen BK283.out 0; have hfz7_1 := blk_frozen BK283.out 1; have hfz7_2 := blk_frozen BK283.out 2; have hfz7_3 := blk_frozen BK283.out 3; have hfz7_4 := blk_frozen BK283.out 4; have hfz7_5 := blk_frozen BK283.out 5; have hcz8_0 : w5.cell? ⟨gb284, 0, none⟩ = some (.slice none 0 0) := (blk_cell BK284.out 0).trans rfl; have hcz8_1 : w5.cell? ⟨gb284, 1, none⟩ = some (.int .i64 0) := (blk_cell BK284.out 1).trans rfl; have hcz8_2 : w5.cell? ⟨gb284, 2, none⟩ = some (.slice none 0 0) := (blk_cell BK284.out 2).trans rfl; have hcz8_3 : w5.cell? ⟨gb284, 3, none⟩ = some (.bool false) := (blk_cell BK284.out 3).trans rfl; have hcz8_4 : w5.cell? ⟨gb284, 4, none⟩ = some (.int .i64 0) := (blk_cell BK284.out 4).trans rfl; have hcz8_5 : w5.cell? ⟨gb284, 5, none⟩ = some (.int .i64 0) := (blk_cell BK284.out 5).trans rfl; have hfz8_0 := blk_frozen BK284.out 0; have hfz8_1 := blk_frozen BK284.out 1; have hfz8_2 := blk_frozen BK284.out 2; have hfz8_3 := blk_frozen BK284.out 3; have hfz8_4 := blk_frozen BK284.out 4; have hfz8_5 := blk_frozen BK284.out 5))
 refine bodyPost_ret (results_cell_row rfl _ _ gb284 30 #[.slice Ao2 l0_0.length co2, .int .i64 a0_1, .slice Ao3 l0_2.length co3, .bool a0_3, .int .i64 a0_4, .int .i64 a0_5] (0, 0) _ rfl (qs6_ (qk_ BK284.out)) Tryd.underlying30 rfl (by kernel_rfl)) rfl ?_
 exact ⟨_, _, qw_, by (with_reducible repeat (first | apply Kd.R_alloc | apply Kd.R_drewN | apply Kd.R_drew)); exact Kd.R_mono (Kd.R_far (p := ⟨gb284, 5, none⟩) (Kd.R_far (p := ⟨gb284, 4, none⟩) (Kd.R_far (p := ⟨gb284, 3, none⟩) (Kd.R_far (p := ⟨gb284, 2, none⟩) (Kd.R_far (p := ⟨gb284, 1, none⟩) (Kd.R_far (p := ⟨gb284, 0, none⟩) (Kd.R_types HO0_0.out BK284.out (by decide)) (fun _ hk => hk.2) (.slice Ao2 l0_0.length co2)) (fun _ hk => hk.2) (.int .i64 a0_1)) (fun _ hk => hk.2) (.slice Ao3 l0_2.length co3)) (fun _ hk => hk.2) (.bool a0_3)) (fun _ hk => hk.2) (.int .i64 a0_4)) (fun _ hk => hk.2) (.int .i64 a0_5)) (fun _ hk => hk.1), by (with_reducible repeat (first | apply Kd.R_alloc | apply Kd.R_drewN | apply Kd.R_drew)); exact Kd.R_mono (Kd.R_far (p := ⟨gb284, 5, none⟩) (Kd.R_far (p := ⟨gb284, 4, none⟩) (Kd.R_far (p := ⟨gb284, 3, none⟩) (Kd.R_far (p := ⟨gb284, 2, none⟩) (Kd.R_far (p := ⟨gb284, 1, none⟩) (Kd.R_far (p := ⟨gb284, 0, none⟩) (Kd.R_types HO0_2.out BK284.out (by decide)) (fun _ hk => hk.2) (.slice Ao2 l0_0.length co2)) (fun _ hk => hk.2) (.int .i64 a0_1)) (fun _ hk => hk.2) (.slice Ao3 l0_2.length co3)) (fun _ hk => hk.2) (.bool a0_3)) (fun _ hk => hk.2) (.int .i64 a0_4)) (fun _ hk => hk.2) (.int .i64 a0_5)) (fun _ hk => hk.1), qb_ HB.out, by repeat (first | (with_reducible first | exact HK.out | apply Kept.alloc | apply Kept.drewN | apply Kept.drew | refine Kept.setCell ?_ (.inr GW283.out) _ | refine Kept.setCell ?_ (.inr GW284.out) _) | exact HK.out)⟩

/-! ### letterboxlaw15_SectionParses: function 3 -/
def letterboxlaw15_SectionParses.f (k : Nat) (a0 : ByteArray) : Option (Bool) := (letterboxlaw15_awake.f k).bind fun t285 => (if t285 = true then (if (a0.size : Int) > 300 then (some true) else ((section_Parse.f k a0).bind fun bt286 => ((letterboxref15_Parse.f k a0).bind fun bt298 => (if bt286.2.2.2.2.2.2 = bt298.2.2.2.2.2.2 then ((letterboxlaw15_specOf.f bt286.1 bt286.2.1 bt286.2.2.1 bt286.2.2.2.1 bt286.2.2.2.2.1 bt286.2.2.2.2.2.1).bind fun bt310 => ((letterboxref15_Same.f k bt310.1 bt310.2.1 bt310.2.2.1 bt310.2.2.2.1 bt310.2.2.2.2.1 bt310.2.2.2.2.2 bt298.1 bt298.2.1 bt298.2.2.1 bt298.2.2.2.1 bt298.2.2.2.2.1 bt298.2.2.2.2.2.1).bind fun t320 => (some t320))) else (some false))))) else (some false))
theorem letterboxlaw15_SectionParses.mono : ∀ a0 k, LeO (letterboxlaw15_SectionParses.f k a0) (letterboxlaw15_SectionParses.f (k + 1) a0) := by
 intro a0 k
 unfold letterboxlaw15_SectionParses.f
 repeat' first
   | (with_reducible exact letterboxlaw15_awake.mono _)
   | (with_reducible exact letterboxref15_Parse.mono _ _)
   | (with_reducible exact letterboxref15_Same.mono _ _ _ _ _ _ _ _ _ _ _ _ _)
   | (with_reducible exact section_Parse.mono _ _)
   | (with_reducible exact LeO.refl _)
   | (with_reducible exact LeO.none _)
   | (with_reducible refine LeO.ite ?_ ?_)
   | (with_reducible refine LeO.bind ?_ (fun _ => ?_))
   | exact letterboxlaw15_awake.mono _
   | exact letterboxref15_Parse.mono _ _
   | exact letterboxref15_Same.mono _ _ _ _ _ _ _ _ _ _ _ _ _
   | exact section_Parse.mono _ _
   | exact LeO.none _
   | refine LeO.ite ?_ ?_
   | refine LeO.bind ?_ (fun _ => ?_)
def letterboxlaw15_SectionParses.T8 : Bool × List (List Nat × List Nat) := (true, [([], []), ([], []), ([0, 1], [0, 1]), ([2], [2]), ([3], [3]), ([4, 3, 3], [3, 4]), ([3], [3]), ([5, 6, 5, 3], [3, 5, 6]), ([3, 7], [3, 7]), ([8, 7, 0, 1, 2, 3, 4, 5, 6, 7, 8], [8])])
def letterboxlaw15_SectionParses.B8 : List Nat := [0, 0, 3, 7, 15, 31, 15, 127, 255, 511]
theorem letterboxlaw15_SectionParses.tab8 : rtab .any (opsOf Tryd.f3 8) = letterboxlaw15_SectionParses.T8 := by kernel_rfl
theorem letterboxlaw15_SectionParses.bits8 : waitsOk letterboxlaw15_SectionParses.T8.2 letterboxlaw15_SectionParses.B8 = true := by kernel_rfl
set_option maxHeartbeats 8000000 in
set_option maxRecDepth 100000 in
theorem letterboxlaw15_SectionParses.calls (k : Nat) (a0 : ByteArray) (r : Bool) (w : World) (h : letterboxlaw15_SectionParses.f k a0 = some r) (hL0 : sec_Words w := by first | exact hL0 | exact sec_Words.below hL0 (by repeat (first | (with_reducible first | exact HB.out | apply below_alloc | apply pw_below_drewN | apply below_drew1 | refine below_set ?_ (Aside0.out (by assumption))) | exact HB.out))) :
  Calls Tryd.prog 3 #[.string a0] w fun e w' => e = .returned (.bool r) ∧ Below w.heap.size w w' := by
 have hu26 := Tryd.underlying26
 have hu30 := Tryd.underlying30
 have HB := Aside0.mk (Below.refl w.heap.size w)
 have H : ((letterboxlaw15_awake.f k).bind fun t285 => (if t285 = true then (if (a0.size : Int) > 300 then (some true) else ((section_Parse.f k a0).bind fun bt286 => ((letterboxref15_Parse.f k a0).bind fun bt298 => (if bt286.2.2.2.2.2.2 = bt298.2.2.2.2.2.2 then ((letterboxlaw15_specOf.f bt286.1 bt286.2.1 bt286.2.2.1 bt286.2.2.2.1 bt286.2.2.2.2.1 bt286.2.2.2.2.2.1).bind fun bt310 => ((letterboxref15_Same.f k bt310.1 bt310.2.1 bt310.2.2.1 bt310.2.2.2.1 bt310.2.2.2.2.1 bt310.2.2.2.2.2 bt298.1 bt298.2.1 bt298.2.2.1 bt298.2.2.2.1 bt298.2.2.2.2.1 bt298.2.2.2.2.2.1).bind fun t320 => (some t320))) else (some false))))) else (some false))) = some r := h
 clear h
 replace H := Option.bind_eq_some_iff.mp H
 obtain ⟨t285, A20, H⟩ := H
 replace H : (if t285 = true then (if (a0.size : Int) > 300 then (some true) else ((section_Parse.f k a0).bind fun bt286 => ((letterboxref15_Parse.f k a0).bind fun bt298 => (if bt286.2.2.2.2.2.2 = bt298.2.2.2.2.2.2 then ((letterboxlaw15_specOf.f bt286.1 bt286.2.1 bt286.2.2.1 bt286.2.2.2.1 bt286.2.2.2.2.1 bt286.2.2.2.2.2.1).bind fun bt310 => ((letterboxref15_Same.f k bt310.1 bt310.2.1 bt310.2.2.1 bt310.2.2.2.1 bt310.2.2.2.2.1 bt310.2.2.2.2.2 bt298.1 bt298.2.1 bt298.2.2.1 bt298.2.2.2.1 bt298.2.2.2.2.1 bt298.2.2.2.2.2.1).bind fun t320 => (some t320))) else (some false))))) else (some false)) = some r := H
 have A2 := Aside0.mk A20
 clear A20
 by_cases c3 : t285 = true
 ·subst c3
  have H1 : (if (a0.size : Int) > 300 then (some true) else ((section_Parse.f k a0).bind fun bt286 => ((letterboxref15_Parse.f k a0).bind fun bt298 => (if bt286.2.2.2.2.2.2 = bt298.2.2.2.2.2.2 then ((letterboxlaw15_specOf.f bt286.1 bt286.2.1 bt286.2.2.1 bt286.2.2.2.1 bt286.2.2.2.2.1 bt286.2.2.2.2.2.1).bind fun bt310 => ((letterboxref15_Same.f k bt310.1 bt310.2.1 bt310.2.2.1 bt310.2.2.2.1 bt310.2.2.2.2.1 bt310.2.2.2.2.2 bt298.1 bt298.2.1 bt298.2.2.1 bt298.2.2.2.1 bt298.2.2.2.2.1 bt298.2.2.2.2.2.1).bind fun t320 => (some t320))) else (some false))))) = some r := by rw [if_pos rfl] at H; exact H
  clear H
  have H := H1
  clear H1
  by_cases c4 : (a0.size : Int) > 300
  ·rw [if_pos c4] at H
   have c4b0 : decide (300 < (a0.size : Int)) = true := decide_eq_true c4
   have c4b1 : decide (300 < a0.size) = true := decide_eq_true (by omega)
   clear c4
   obtain rfl := Option.some.inj H
   go_enter Tryd.func3, Tryd.ntmps3
   go_wp2_with (first | ((with_reducible refine gate_callee (f := 7) rfl ?_); refine goesL_ (some 8) rfl rfl Tryd.func7 (by kernel_rfl) rfl #[] rfl qa_ ?_; (with_reducible refine (letterboxlaw15_awake.calls k  true _ A2.out).mono ?_); rintro e w5 ⟨rfl, hb⟩; refine ⟨_, rfl, ?_⟩; have n0_ := Aside0.mk (below_step (qb_ HB.out) hb); clear HB; have HB := n0_; clear n0_; (try clear hb); (try clear hb2); (try clear hk); (try clear hi)))
   go_ret
   exact ⟨qw_, qb_ HB.out⟩
  ·rw [if_neg c4] at H
   have c4b0 : decide (300 < (a0.size : Int)) = false := decide_eq_false c4
   have c4b1 : decide (300 < a0.size) = false := decide_eq_false (by omega)
   clear c4
   replace H := Option.bind_eq_some_iff.mp H
   obtain ⟨⟨t286, t289, t290, t293, t294, t295, t296⟩, A60, H⟩ := H
   replace H : ((letterboxref15_Parse.f k a0).bind fun bt298 => (if t296 = bt298.2.2.2.2.2.2 then ((letterboxlaw15_specOf.f t286 t289 t290 t293 t294 t295).bind fun bt310 => ((letterboxref15_Same.f k bt310.1 bt310.2.1 bt310.2.2.1 bt310.2.2.2.1 bt310.2.2.2.2.1 bt310.2.2.2.2.2 bt298.1 bt298.2.1 bt298.2.2.1 bt298.2.2.2.1 bt298.2.2.2.2.1 bt298.2.2.2.2.2.1).bind fun t320 => (some t320))) else (some false))) = some r := H
   have A6 := Aside0.mk A60
   clear A60
   replace H := Option.bind_eq_some_iff.mp H
   obtain ⟨⟨t298, t301, t302, t305, t306, t307, t308⟩, A70, H⟩ := H
   replace H : (if t296 = t308 then ((letterboxlaw15_specOf.f t286 t289 t290 t293 t294 t295).bind fun bt310 => ((letterboxref15_Same.f k bt310.1 bt310.2.1 bt310.2.2.1 bt310.2.2.2.1 bt310.2.2.2.2.1 bt310.2.2.2.2.2 t298 t301 t302 t305 t306 t307).bind fun t320 => (some t320))) else (some false)) = some r := H
   have A7 := Aside0.mk A70
   clear A70
   by_cases c8 : t296 = t308
   ·rw [if_pos c8] at H
    have c8b0 : (t296 == t308) = true := beq_iff_eq.mpr c8
    have c8b1 : (t296 != t308) = false := bne_eq_false_iff_eq.mpr c8
    clear c8
    replace H := Option.bind_eq_some_iff.mp H
    obtain ⟨⟨t310, t313, t314, t317, t318, t319⟩, A90, H⟩ := H
    replace H : ((letterboxref15_Same.f k t310 t313 t314 t317 t318 t319 t298 t301 t302 t305 t306 t307).bind fun t320 => (some t320)) = some r := H
    have A9 := Aside0.mk A90
    clear A90
    replace H := Option.bind_eq_some_iff.mp H
    obtain ⟨t320, A100, H⟩ := H
    replace H : (some t320) = some r := H
    have A10 := Aside0.mk A100
    clear A100
    obtain rfl := Option.some.inj H
    go_enter Tryd.func3, Tryd.ntmps3
    try go_wp2_with (first | ((with_reducible refine gate_callee (f := 7) rfl ?_); refine goesL_ (some 8) rfl rfl Tryd.func7 (by kernel_rfl) rfl #[] rfl qa_ ?_; (with_reducible refine (letterboxlaw15_awake.calls k  true _ A2.out).mono ?_); rintro e w11 ⟨rfl, hb⟩; refine ⟨_, rfl, ?_⟩; have n0_ := Aside0.mk (below_step (qb_ HB.out) hb); clear HB; have HB := n0_; clear n0_; (try clear hb); (try clear hb2); (try clear hk); (try clear hi)) | ((with_reducible refine gate_callee (f := 8) rfl ?_); refine goesL_ (some 16) rfl rfl Tryd.func8 (by kernel_rfl) rfl #[.string a0] rfl qa_ ?_; (with_reducible refine (section_Parse.calls k a0 t286 t289 t290 t293 t294 t295 t296 _ A6.out).mono ?_); rintro e w12 ⟨v287, v291, rfl, ho0, ho1, hb⟩; refine ⟨_, rfl, ?_⟩; have n0_ := Aside0.mk (Kd.R_lower ho0 (below_size (qb_ HB.out))); have n1_ := Aside0.mk (Kd.R_lower ho1 (below_size (qb_ HB.out))); have n2_ := Aside0.mk (below_step (qb_ HB.out) hb); clear HB; have HO288 := n0_; have HO292 := n1_; have HB := n2_; clear n0_ n1_ n2_; (try clear hb); (try clear hb2); (try clear hk); (try clear hi); (try clear ho0); (try clear ho1)) | ((with_reducible refine gate_dst (N := 4) rfl ?_); refine box_event ?hg (N := 4) ?hd (cs := #[.slice none 0 0, .int .i64 0, .slice none 0 0, .bool false, .int .i64 0, .int .i64 0]) (t := 26) ?hr ?_; (case hd => rfl); (case hg => rfl); (case hr => first | (go_simp; done) | (go_simp; rfl)); intro gb297 hg w13 hbox hb; have n0_ := Aside0.mk (Kd.R_below (ql_ HO288.out) hb); have n1_ := Aside0.mk (Kd.R_below (ql_ HO292.out) hb); have n2_ := Aside0.mk (below_step (qb_ HB.out) hb); have n3_ := Aside0.mk (hbox); have n4_ := Aside0.mk ((by rw [hg]; exact (below_size (qb_ HB.out)) : w.heap.size ≤ gb297)); have n5_ := Aside0.mk ((by rw [hg]; exact (below_size (qb_ HB.out)) : w.heap.size ≤ gb297)); clear HO288; clear HO292; clear HB; have HO288 := n0_; have HO292 := n1_; have HB := n2_; have BK297 := n3_; have GW297 := n4_; have GE297 := n5_; clear n0_ n1_ n2_ n3_ n4_ n5_; clear hb hbox hg; obtain ⟨Ao14, co14, eo14⟩ := Kd.R_slice HO288.out; subst eo14; have hcz15_0 : w13.cell? ⟨gb297, 0, none⟩ = some (.slice none 0 0) := (blk_cell BK297.out 0).trans rfl; have hcz15_1 : w13.cell? ⟨gb297, 1, none⟩ = some (.int .i64 0) := (blk_cell BK297.out 1).trans rfl; have hcz15_2 : w13.cell? ⟨gb297, 2, none⟩ = some (.slice none 0 0) := (blk_cell BK297.out 2).trans rfl; have hcz15_3 : w13.cell? ⟨gb297, 3, none⟩ = some (.bool false) := (blk_cell BK297.out 3).trans rfl; have hcz15_4 : w13.cell? ⟨gb297, 4, none⟩ = some (.int .i64 0) := (blk_cell BK297.out 4).trans rfl; have hcz15_5 : w13.cell? ⟨gb297, 5, none⟩ = some (.int .i64 0) := (blk_cell BK297.out 5).trans rfl; have hfz15_0 := blk_frozen BK297.out 0; have hfz15_1 := blk_frozen BK297.out 1; have hfz15_2 := blk_frozen BK297.out 2; have hfz15_3 := blk_frozen BK297.out 3; have hfz15_4 := blk_frozen BK297.out 4; have hfz15_5 := blk_frozen BK297.out 5; obtain ⟨Ao16, co16, eo16⟩ := Kd.R_slice HO292.out; subst eo16) | ((with_reducible refine gate_callee (f := 9) rfl ?_); refine goesL_ (some 21) rfl rfl Tryd.func9 (by kernel_rfl) rfl #[.string a0] rfl qa_ ?_; (with_reducible refine (letterboxref15_Parse.calls k a0 t298 t301 t302 t305 t306 t307 t308 _ A7.out).mono ?_); rintro e w17 ⟨v299, v303, rfl, ho0, ho1, hb⟩; refine ⟨_, rfl, ?_⟩; have n0_ := Aside0.mk (Kd.R_elder' (by (with_reducible repeat (first | apply Kd.R_alloc | apply Kd.R_drewN | apply Kd.R_drew)); exact (Kd.R_mono (Kd.R_far (p := ⟨gb297, 5, none⟩) (Kd.R_far (p := ⟨gb297, 4, none⟩) (Kd.R_far (p := ⟨gb297, 3, none⟩) (Kd.R_far (p := ⟨gb297, 2, none⟩) (Kd.R_far (p := ⟨gb297, 1, none⟩) (Kd.R_far (p := ⟨gb297, 0, none⟩) (Kd.R_types HO288.out BK297.out (by decide)) (fun _ hk => hk.2) (.slice Ao14 t286.length co14)) (fun _ hk => hk.2) (.int .i64 t289)) (fun _ hk => hk.2) (.slice Ao16 t290.length co16)) (fun _ hk => hk.2) (.bool t293)) (fun _ hk => hk.2) (.int .i64 t294)) (fun _ hk => hk.2) (.int .i64 t295)) (fun _ h_ => h_.1))) (Kd.R_base ho0) hb); have n1_ := Aside0.mk (Kd.R_elder' (by (with_reducible repeat (first | apply Kd.R_alloc | apply Kd.R_drewN | apply Kd.R_drew)); exact (Kd.R_mono (Kd.R_far (p := ⟨gb297, 5, none⟩) (Kd.R_far (p := ⟨gb297, 4, none⟩) (Kd.R_far (p := ⟨gb297, 3, none⟩) (Kd.R_far (p := ⟨gb297, 2, none⟩) (Kd.R_far (p := ⟨gb297, 1, none⟩) (Kd.R_far (p := ⟨gb297, 0, none⟩) (Kd.R_types HO292.out BK297.out (by decide)) (fun _ hk => hk.2) (.slice Ao14 t286.length co14)) (fun _ hk => hk.2) (.int .i64 t289)) (fun _ hk => hk.2) (.slice Ao16 t290.length co16)) (fun _ hk => hk.2) (.bool t293)) (fun _ hk => hk.2) (.int .i64 t294)) (fun _ hk => hk.2) (.int .i64 t295)) (fun _ h_ => h_.1))) (Kd.R_base ho1) hb); have n2_ := Aside0.mk (Kd.R_lower (Kd.R_new' ho0 (Kd.R_lt (by (with_reducible repeat (first | apply Kd.R_alloc | apply Kd.R_drewN | apply Kd.R_drew)); exact (Kd.R_mono (Kd.R_far (p := ⟨gb297, 5, none⟩) (Kd.R_far (p := ⟨gb297, 4, none⟩) (Kd.R_far (p := ⟨gb297, 3, none⟩) (Kd.R_far (p := ⟨gb297, 2, none⟩) (Kd.R_far (p := ⟨gb297, 1, none⟩) (Kd.R_far (p := ⟨gb297, 0, none⟩) (Kd.R_types HO288.out BK297.out (by decide)) (fun _ hk => hk.2) (.slice Ao14 t286.length co14)) (fun _ hk => hk.2) (.int .i64 t289)) (fun _ hk => hk.2) (.slice Ao16 t290.length co16)) (fun _ hk => hk.2) (.bool t293)) (fun _ hk => hk.2) (.int .i64 t294)) (fun _ hk => hk.2) (.int .i64 t295)) (fun _ h_ => h_.1))))) (below_size (qb_ HB.out))); have n3_ := Aside0.mk (Kd.R_lower (Kd.R_new' ho1 (Kd.R_lt (by (with_reducible repeat (first | apply Kd.R_alloc | apply Kd.R_drewN | apply Kd.R_drew)); exact (Kd.R_mono (Kd.R_far (p := ⟨gb297, 5, none⟩) (Kd.R_far (p := ⟨gb297, 4, none⟩) (Kd.R_far (p := ⟨gb297, 3, none⟩) (Kd.R_far (p := ⟨gb297, 2, none⟩) (Kd.R_far (p := ⟨gb297, 1, none⟩) (Kd.R_far (p := ⟨gb297, 0, none⟩) (Kd.R_types HO292.out BK297.out (by decide)) (fun _ hk => hk.2) (.slice Ao14 t286.length co14)) (fun _ hk => hk.2) (.int .i64 t289)) (fun _ hk => hk.2) (.slice Ao16 t290.length co16)) (fun _ hk => hk.2) (.bool t293)) (fun _ hk => hk.2) (.int .i64 t294)) (fun _ hk => hk.2) (.int .i64 t295)) (fun _ h_ => h_.1))))) (below_size (qb_ HB.out))); have n4_ := Aside0.mk (blk_below (g := gb297) (o := .cells #[.slice Ao14 t286.length co14, .int .i64 t289, .slice Ao16 t290.length co16, .bool t293, .int .i64 t294, .int .i64 t295] 26 (0, 0)) (qs6_ (qk_ BK297.out)) hb); have n5_ := Aside0.mk (below_step (qb_ HB.out) hb); clear HO288; clear HO292; clear BK297; clear HB; have HO288 := n0_; have HO292 := n1_; have HO300 := n2_; have HO304 := n3_; have BK297 := n4_; have HB := n5_; clear n0_ n1_ n2_ n3_ n4_ n5_; (try clear hb); (try clear hb2); (try clear hk); (try clear hi); (try clear ho0); (try clear ho1)) | ((with_reducible refine gate_dst (N := 6) rfl ?_); refine box_event ?hg (N := 6) ?hd (cs := #[.slice none 0 0, .int .i64 0, .slice none 0 0, .bool false, .int .i64 0, .int .i64 0]) (t := 30) ?hr ?_; (case hd => rfl); (case hg => rfl); (case hr => first | (go_simp; done) | (go_simp; rfl)); intro gb309 hg w18 hbox hb; have n0_ := Aside0.mk (Kd.R_below (ql_ HO288.out) hb); have n1_ := Aside0.mk (Kd.R_below (ql_ HO292.out) hb); have n2_ := Aside0.mk (Kd.R_below (ql_ HO300.out) hb); have n3_ := Aside0.mk (Kd.R_below (ql_ HO304.out) hb); have n4_ := Aside0.mk (blk_below (g := gb297) (o := .cells #[.slice Ao14 t286.length co14, .int .i64 t289, .slice Ao16 t290.length co16, .bool t293, .int .i64 t294, .int .i64 t295] 26 (0, 0)) (qk_ BK297.out) hb); have n5_ := Aside0.mk (below_step (qb_ HB.out) hb); have n6_ := Aside0.mk (hbox); have n7_ := Aside0.mk ((by rw [hg]; exact (below_size (qb_ HB.out)) : w.heap.size ≤ gb309)); have n8_ := Aside0.mk ((by rw [hg]; exact (below_size (qb_ HB.out)) : w.heap.size ≤ gb309)); have n9_ := Aside0.mk ((by rw [hg]; exact Nat.ne_of_lt (blk_lt (g := gb297) (o := .cells #[.slice Ao14 t286.length co14, .int .i64 t289, .slice Ao16 t290.length co16, .bool t293, .int .i64 t294, .int .i64 t295] 26 (0, 0)) (qk_ BK297.out)) : gb297 ≠ gb309)); have n10_ := Aside0.mk ((by rw [hg]; exact Nat.ne_of_gt (blk_lt (g := gb297) (o := .cells #[.slice Ao14 t286.length co14, .int .i64 t289, .slice Ao16 t290.length co16, .bool t293, .int .i64 t294, .int .i64 t295] 26 (0, 0)) (qk_ BK297.out)) : gb309 ≠ gb297)); clear HO288; clear HO292; clear HO300; clear HO304; clear BK297; clear HB; have HO288 := n0_; have HO292 := n1_; have HO300 := n2_; have HO304 := n3_; have BK297 := n4_; have HB := n5_; have BK309 := n6_; have GW309 := n7_; have GE309 := n8_; have NB297_309 := n9_; have NB309_297 := n10_; clear n0_ n1_ n2_ n3_ n4_ n5_ n6_ n7_ n8_ n9_ n10_; clear hb hbox hg; obtain ⟨Ao19, co19, eo19⟩ := Kd.R_slice HO300.out; subst eo19; have hnb20 := NB309_297.out; have hnc20 := NB297_309.out; have hcz21_0 : w18.cell? ⟨gb309, 0, none⟩ = some (.slice none 0 0) := (blk_cell BK309.out 0).trans rfl; have hcz21_1 : w18.cell? ⟨gb309, 1, none⟩ = some (.int .i64 0) := (blk_cell BK309.out 1).trans rfl; have hcz21_2 : w18.cell? ⟨gb309, 2, none⟩ = some (.slice none 0 0) := (blk_cell BK309.out 2).trans rfl; have hcz21_3 : w18.cell? ⟨gb309, 3, none⟩ = some (.bool false) := (blk_cell BK309.out 3).trans rfl; have hcz21_4 : w18.cell? ⟨gb309, 4, none⟩ = some (.int .i64 0) := (blk_cell BK309.out 4).trans rfl; have hcz21_5 : w18.cell? ⟨gb309, 5, none⟩ = some (.int .i64 0) := (blk_cell BK309.out 5).trans rfl; have hfz21_0 := blk_frozen BK309.out 0; have hfz21_1 := blk_frozen BK309.out 1; have hfz21_2 := blk_frozen BK309.out 2; have hfz21_3 := blk_frozen BK309.out 3; have hfz21_4 := blk_frozen BK309.out 4; have hfz21_5 := blk_frozen BK309.out 5; obtain ⟨Ao22, co22, eo22⟩ := Kd.R_slice HO304.out; subst eo22))
    have n0_ : Aside0 (Kd.R (Kd.int .i64) 3 ((((((w18.setCell ⟨gb309, 0, none⟩ (.slice Ao19 t298.length co19)).setCell ⟨gb309, 1, none⟩ (.int .i64 t301)).setCell ⟨gb309, 2, none⟩ (.slice Ao22 t302.length co22)).setCell ⟨gb309, 3, none⟩ (.bool t305)).setCell ⟨gb309, 4, none⟩ (.int .i64 t306)).setCell ⟨gb309, 5, none⟩ (.int .i64 t307)) w.heap.size (fun k_ => some k_ ≠ (.slice Ao19 t298.length co19 : Value).ownBlock) (.slice Ao14 t286.length co14) t286) := ⟨by (with_reducible repeat (first | apply Kd.R_alloc | apply Kd.R_drewN | apply Kd.R_drew)); exact Kd.R_mono (Kd.R_far (p := ⟨gb309, 5, none⟩) (Kd.R_far (p := ⟨gb309, 4, none⟩) (Kd.R_far (p := ⟨gb309, 3, none⟩) (Kd.R_far (p := ⟨gb309, 2, none⟩) (Kd.R_far (p := ⟨gb309, 1, none⟩) (Kd.R_far (p := ⟨gb309, 0, none⟩) (Kd.R_types HO288.out BK309.out (by decide)) (fun _ hk => hk.2) (.slice Ao19 t298.length co19)) (fun _ hk => hk.2) (.int .i64 t301)) (fun _ hk => hk.2) (.slice Ao22 t302.length co22)) (fun _ hk => hk.2) (.bool t305)) (fun _ hk => hk.2) (.int .i64 t306)) (fun _ hk => hk.2) (.int .i64 t307)) (fun _ hk => hk.1.2)⟩
    have n1_ : Aside0 (Kd.R Kd.string 9 ((((((w18.setCell ⟨gb309, 0, none⟩ (.slice Ao19 t298.length co19)).setCell ⟨gb309, 1, none⟩ (.int .i64 t301)).setCell ⟨gb309, 2, none⟩ (.slice Ao22 t302.length co22)).setCell ⟨gb309, 3, none⟩ (.bool t305)).setCell ⟨gb309, 4, none⟩ (.int .i64 t306)).setCell ⟨gb309, 5, none⟩ (.int .i64 t307)) w.heap.size (fun k_ => some k_ ≠ (.slice Ao22 t302.length co22 : Value).ownBlock) (.slice Ao16 t290.length co16) t290) := ⟨by (with_reducible repeat (first | apply Kd.R_alloc | apply Kd.R_drewN | apply Kd.R_drew)); exact Kd.R_mono (Kd.R_far (p := ⟨gb309, 5, none⟩) (Kd.R_far (p := ⟨gb309, 4, none⟩) (Kd.R_far (p := ⟨gb309, 3, none⟩) (Kd.R_far (p := ⟨gb309, 2, none⟩) (Kd.R_far (p := ⟨gb309, 1, none⟩) (Kd.R_far (p := ⟨gb309, 0, none⟩) (Kd.R_types HO292.out BK309.out (by decide)) (fun _ hk => hk.2) (.slice Ao19 t298.length co19)) (fun _ hk => hk.2) (.int .i64 t301)) (fun _ hk => hk.2) (.slice Ao22 t302.length co22)) (fun _ hk => hk.2) (.bool t305)) (fun _ hk => hk.2) (.int .i64 t306)) (fun _ hk => hk.2) (.int .i64 t307)) (fun _ hk => hk.1.2)⟩
    have n2_ : Aside0 (Kd.R (Kd.int .i64) 3 ((((((w18.setCell ⟨gb309, 0, none⟩ (.slice Ao19 t298.length co19)).setCell ⟨gb309, 1, none⟩ (.int .i64 t301)).setCell ⟨gb309, 2, none⟩ (.slice Ao22 t302.length co22)).setCell ⟨gb309, 3, none⟩ (.bool t305)).setCell ⟨gb309, 4, none⟩ (.int .i64 t306)).setCell ⟨gb309, 5, none⟩ (.int .i64 t307)) w.heap.size (fun k_ => some k_ ≠ (.slice Ao14 t286.length co14 : Value).ownBlock) (.slice Ao19 t298.length co19) t298) := ⟨by (with_reducible repeat (first | apply Kd.R_alloc | apply Kd.R_drewN | apply Kd.R_drew)); exact Kd.R_mono (Kd.R_far (p := ⟨gb309, 5, none⟩) (Kd.R_far (p := ⟨gb309, 4, none⟩) (Kd.R_far (p := ⟨gb309, 3, none⟩) (Kd.R_far (p := ⟨gb309, 2, none⟩) (Kd.R_far (p := ⟨gb309, 1, none⟩) (Kd.R_far (p := ⟨gb309, 0, none⟩) (Kd.R_types HO300.out BK309.out (by decide)) (fun _ hk => hk.2) (.slice Ao19 t298.length co19)) (fun _ hk => hk.2) (.int .i64 t301)) (fun _ hk => hk.2) (.slice Ao22 t302.length co22)) (fun _ hk => hk.2) (.bool t305)) (fun _ hk => hk.2) (.int .i64 t306)) (fun _ hk => hk.2) (.int .i64 t307)) (fun _ hk => hk.1.2)⟩
    have n3_ : Aside0 (Kd.R Kd.string 9 ((((((w18.setCell ⟨gb309, 0, none⟩ (.slice Ao19 t298.length co19)).setCell ⟨gb309, 1, none⟩ (.int .i64 t301)).setCell ⟨gb309, 2, none⟩ (.slice Ao22 t302.length co22)).setCell ⟨gb309, 3, none⟩ (.bool t305)).setCell ⟨gb309, 4, none⟩ (.int .i64 t306)).setCell ⟨gb309, 5, none⟩ (.int .i64 t307)) w.heap.size (fun k_ => some k_ ≠ (.slice Ao16 t290.length co16 : Value).ownBlock) (.slice Ao22 t302.length co22) t302) := ⟨by (with_reducible repeat (first | apply Kd.R_alloc | apply Kd.R_drewN | apply Kd.R_drew)); exact Kd.R_mono (Kd.R_far (p := ⟨gb309, 5, none⟩) (Kd.R_far (p := ⟨gb309, 4, none⟩) (Kd.R_far (p := ⟨gb309, 3, none⟩) (Kd.R_far (p := ⟨gb309, 2, none⟩) (Kd.R_far (p := ⟨gb309, 1, none⟩) (Kd.R_far (p := ⟨gb309, 0, none⟩) (Kd.R_types HO304.out BK309.out (by decide)) (fun _ hk => hk.2) (.slice Ao19 t298.length co19)) (fun _ hk => hk.2) (.int .i64 t301)) (fun _ hk => hk.2) (.slice Ao22 t302.length co22)) (fun _ hk => hk.2) (.bool t305)) (fun _ hk => hk.2) (.int .i64 t306)) (fun _ hk => hk.2) (.int .i64 t307)) (fun _ hk => hk.1.2)⟩
    have n4_ : Aside0 (((((((w18.setCell ⟨gb309, 0, none⟩ (.slice Ao19 t298.length co19)).setCell ⟨gb309, 1, none⟩ (.int .i64 t301)).setCell ⟨gb309, 2, none⟩ (.slice Ao22 t302.length co22)).setCell ⟨gb309, 3, none⟩ (.bool t305)).setCell ⟨gb309, 4, none⟩ (.int .i64 t306)).setCell ⟨gb309, 5, none⟩ (.int .i64 t307)).heap[gb297]? = some (.cells #[.slice Ao14 t286.length co14, .int .i64 t289, .slice Ao16 t290.length co16, .bool t293, .int .i64 t294, .int .i64 t295] 26 (0, 0))) := ⟨by (with_reducible repeat (first | refine blk_drewN ?_ _ | refine blk_drew ?_ | refine blk_alloc ?_ _)); refine blk_far ?_ NB297_309.out _; (with_reducible repeat (first | refine blk_drewN ?_ _ | refine blk_drew ?_ | refine blk_alloc ?_ _)); refine blk_far ?_ NB297_309.out _; (with_reducible repeat (first | refine blk_drewN ?_ _ | refine blk_drew ?_ | refine blk_alloc ?_ _)); refine blk_far ?_ NB297_309.out _; (with_reducible repeat (first | refine blk_drewN ?_ _ | refine blk_drew ?_ | refine blk_alloc ?_ _)); refine blk_far ?_ NB297_309.out _; (with_reducible repeat (first | refine blk_drewN ?_ _ | refine blk_drew ?_ | refine blk_alloc ?_ _)); refine blk_far ?_ NB297_309.out _; (with_reducible repeat (first | refine blk_drewN ?_ _ | refine blk_drew ?_ | refine blk_alloc ?_ _)); refine blk_far ?_ NB297_309.out _; (with_reducible repeat (first | refine blk_drewN ?_ _ | refine blk_drew ?_ | refine blk_alloc ?_ _)); exact BK297.out⟩
    have n5_ : Aside0 (((((((w18.setCell ⟨gb309, 0, none⟩ (.slice Ao19 t298.length co19)).setCell ⟨gb309, 1, none⟩ (.int .i64 t301)).setCell ⟨gb309, 2, none⟩ (.slice Ao22 t302.length co22)).setCell ⟨gb309, 3, none⟩ (.bool t305)).setCell ⟨gb309, 4, none⟩ (.int .i64 t306)).setCell ⟨gb309, 5, none⟩ (.int .i64 t307)).heap[gb309]? = some (.cells #[.slice Ao19 t298.length co19, .int .i64 t301, .slice Ao22 t302.length co22, .bool t305, .int .i64 t306, .int .i64 t307] 30 (0, 0))) := ⟨by (with_reducible repeat (first | refine blk_drewN ?_ _ | refine blk_drew ?_ | refine blk_alloc ?_ _)); refine blk_put (cs := #[.slice Ao19 t298.length co19, .int .i64 t301, .slice Ao22 t302.length co22, .bool t305, .int .i64 t306, .int .i64 0]) ?_ 5 _ rfl; (with_reducible repeat (first | refine blk_drewN ?_ _ | refine blk_drew ?_ | refine blk_alloc ?_ _)); refine blk_put (cs := #[.slice Ao19 t298.length co19, .int .i64 t301, .slice Ao22 t302.length co22, .bool t305, .int .i64 0, .int .i64 0]) ?_ 4 _ rfl; (with_reducible repeat (first | refine blk_drewN ?_ _ | refine blk_drew ?_ | refine blk_alloc ?_ _)); refine blk_put (cs := #[.slice Ao19 t298.length co19, .int .i64 t301, .slice Ao22 t302.length co22, .bool false, .int .i64 0, .int .i64 0]) ?_ 3 _ rfl; (with_reducible repeat (first | refine blk_drewN ?_ _ | refine blk_drew ?_ | refine blk_alloc ?_ _)); refine blk_put (cs := #[.slice Ao19 t298.length co19, .int .i64 t301, .slice none 0 0, .bool false, .int .i64 0, .int .i64 0]) ?_ 2 _ rfl; (with_reducible repeat (first | refine blk_drewN ?_ _ | refine blk_drew ?_ | refine blk_alloc ?_ _)); refine blk_put (cs := #[.slice Ao19 t298.length co19, .int .i64 0, .slice none 0 0, .bool false, .int .i64 0, .int .i64 0]) ?_ 1 _ rfl; (with_reducible repeat (first | refine blk_drewN ?_ _ | refine blk_drew ?_ | refine blk_alloc ?_ _)); refine blk_put (cs := #[.slice none 0 0, .int .i64 0, .slice none 0 0, .bool false, .int .i64 0, .int .i64 0]) ?_ 0 _ rfl; (with_reducible repeat (first | refine blk_drewN ?_ _ | refine blk_drew ?_ | refine blk_alloc ?_ _)); exact BK309.out⟩
    have n6_ : Aside0 (Below w.heap.size w ((((((w18.setCell ⟨gb309, 0, none⟩ (.slice Ao19 t298.length co19)).setCell ⟨gb309, 1, none⟩ (.int .i64 t301)).setCell ⟨gb309, 2, none⟩ (.slice Ao22 t302.length co22)).setCell ⟨gb309, 3, none⟩ (.bool t305)).setCell ⟨gb309, 4, none⟩ (.int .i64 t306)).setCell ⟨gb309, 5, none⟩ (.int .i64 t307))) := ⟨qb_ HB.out⟩
    (try clear HO288)
    (try clear HO292)
    (try clear HO300)
    (try clear HO304)
    (try clear BK297)
    (try clear BK309)
    (try clear HB)
    generalize ((((((w18.setCell ⟨gb309, 0, none⟩ (.slice Ao19 t298.length co19)).setCell ⟨gb309, 1, none⟩ (.int .i64 t301)).setCell ⟨gb309, 2, none⟩ (.slice Ao22 t302.length co22)).setCell ⟨gb309, 3, none⟩ (.bool t305)).setCell ⟨gb309, 4, none⟩ (.int .i64 t306)).setCell ⟨gb309, 5, none⟩ (.int .i64 t307)) = w23 at n0_ n1_ n2_ n3_ n4_ n5_ n6_ ⊢
    have HO288 := n0_
    have HO292 := n1_
    have HO300 := n2_
    have HO304 := n3_
    have BK297 := n4_
    have BK309 := n5_
    have HB := n6_
    clear n0_ n1_ n2_ n3_ n4_ n5_ n6_
    have n0_ := Aside0.mk (Kd.R_drew HO288.out)
    have n1_ := Aside0.mk (Kd.R_drew HO292.out)
    have n2_ := Aside0.mk (Kd.R_drew HO300.out)
    have n3_ := Aside0.mk (Kd.R_drew HO304.out)
    have n4_ := Aside0.mk (blk_drew BK297.out)
    have n5_ := Aside0.mk (blk_drew BK309.out)
    have n6_ := Aside0.mk (below_drew1 HB.out)
    clear HO288
    clear HO292
    clear HO300
    clear HO304
    clear BK297
    clear BK309
    clear HB
    have HO288 := n0_
    have HO292 := n1_
    have HO300 := n2_
    have HO304 := n3_
    have BK297 := n4_
    have BK309 := n5_
    have HB := n6_
    clear n0_ n1_ n2_ n3_ n4_ n5_ n6_
    refine start_ (n := 10) (S := fun w' => w'.cell? ⟨gb297, 0, none⟩ = some (.slice Ao14 t286.length co14) ∧ w'.cell? ⟨gb297, 1, none⟩ = some (.int .i64 t289) ∧ w'.cell? ⟨gb297, 2, none⟩ = some (.slice Ao16 t290.length co16) ∧ w'.cell? ⟨gb297, 3, none⟩ = some (.bool t293) ∧ w'.cell? ⟨gb297, 4, none⟩ = some (.int .i64 t294) ∧ w'.cell? ⟨gb297, 5, none⟩ = some (.int .i64 t295) ∧ w'.cell? ⟨gb309, 0, none⟩ = some (.slice Ao19 t298.length co19) ∧ w'.cell? ⟨gb309, 1, none⟩ = some (.int .i64 t301) ∧ w'.cell? ⟨gb309, 2, none⟩ = some (.slice Ao22 t302.length co22) ∧ w'.cell? ⟨gb309, 3, none⟩ = some (.bool t305) ∧ w'.cell? ⟨gb309, 4, none⟩ = some (.int .i64 t306) ∧ w'.cell? ⟨gb309, 5, none⟩ = some (.int .i64 t307)) (ds := []) #[false, false, false, false, false, false, false, false, false, false] (by kernel_rfl) rfl rfl ⟨(blk_cell BK297.out 0).trans rfl, (blk_cell BK297.out 1).trans rfl, (blk_cell BK297.out 2).trans rfl, (blk_cell BK297.out 3).trans rfl, (blk_cell BK297.out 4).trans rfl, (blk_cell BK297.out 5).trans rfl, (blk_cell BK309.out 0).trans rfl, (blk_cell BK309.out 1).trans rfl, (blk_cell BK309.out 2).trans rfl, (blk_cell BK309.out 3).trans rfl, (blk_cell BK309.out 4).trans rfl, (blk_cell BK309.out 5).trans rfl⟩ (fun hHeld => ?_); refine with_tabW letterboxlaw15_SectionParses.tab8 letterboxlaw15_SectionParses.bits8 (fun HT_ HW_ => ?_)
    generalize w23.drew = w24 at HO288 HO292 HO300 HO304 BK297 BK309 HB hHeld ⊢
    refine pure_ (i := 0) (N := some 24) (v := ?_) (a' := ?_) #[true, false, false, false, false, false, false, false, false, false] rfl rfl (any_of HT_.out (by kernel_rfl)) (fun _ _ _ h => h) (Or.inl ⟨by rfl, ?_⟩) ?_ ?_
    rotate_left
    ·intro w'
     go_simp
     with_reducible rfl
    rotate_left
    ·simp only [Act.put, List.setIfInBounds_toArray, List.set_cons_zero, List.set_cons_succ, i64_w, i32_w]
     rfl
    refine pure_ (i := 1) (N := some 25) (v := ?_) (a' := ?_) #[true, true, false, false, false, false, false, false, false, false] rfl rfl (any_of HT_.out (by kernel_rfl)) (fun _ _ _ h => h) (Or.inl ⟨by rfl, ?_⟩) ?_ ?_
    rotate_left
    ·intro w'
     go_simp
     with_reducible rfl
    rotate_left
    ·simp only [Act.put, List.setIfInBounds_toArray, List.set_cons_zero, List.set_cons_succ, i64_w, i32_w]
     rfl
    refine pure_ (i := 2) (N := some 26) (v := ?_) (a' := ?_) #[true, true, true, false, false, false, false, false, false, false] rfl rfl (any_of HT_.out (by kernel_rfl)) (fun _ _ _ h => h) (Or.inl ⟨by rfl, ?_⟩) ?_ ?_
    rotate_left
    ·intro w'
     go_simp
     with_reducible rfl
    rotate_left
    ·simp only [Act.put, List.setIfInBounds_toArray, List.set_cons_zero, List.set_cons_succ, i64_w, i32_w]
     rfl
    refine pure_ (i := 3) (N := some 27) (v := ?_) (a' := ?_) #[true, true, true, true, false, false, false, false, false, false] rfl rfl (any_of HT_.out (by kernel_rfl)) (fun _ _ _ h => h) (Or.inl ⟨by rfl, ?_⟩) ?_ ?_
    rotate_left
    ·intro w'
     go_simp
     with_reducible rfl
    rotate_left
    ·simp only [Act.put, List.setIfInBounds_toArray, List.set_cons_zero, List.set_cons_succ, i64_w, i32_w]
     rfl
    refine take_ (i := 4) (N := some 28) (v := ?_) (a' := ?_) #[true, true, true, true, true, false, false, false, false, false] rfl rfl (take_ofW HT_.out HW_.out (by kernel_rfl)) (fun _ _ _ h => h) (Or.inl ⟨by rfl, ?_⟩) hHeld ?_ ?_
    rotate_left
    ·rintro w' ⟨s0, s1, s2, s3, s4, s5, s6, s7, s8, s9, s10, s11⟩
     go_simp
     with_reducible rfl
    rotate_left
    ·simp only [Act.put, List.setIfInBounds_toArray, List.set_cons_zero, List.set_cons_succ, i64_w, i32_w]
     rfl
    refine take_ (i := 6) (N := some 30) (v := ?_) (a' := ?_) #[true, true, true, true, true, false, true, false, false, false] rfl rfl (take_ofW HT_.out HW_.out (by kernel_rfl)) (fun _ _ _ h => h) (Or.inl ⟨by rfl, ?_⟩) hHeld ?_ ?_
    rotate_left
    ·rintro w' ⟨s0, s1, s2, s3, s4, s5, s6, s7, s8, s9, s10, s11⟩
     go_simp
     with_reducible rfl
    rotate_left
    ·simp only [Act.put, List.setIfInBounds_toArray, List.set_cons_zero, List.set_cons_succ, i64_w, i32_w]
     rfl
    refine one_ (i := 5) (N := some 29) #[true, true, true, true, true, true, true, false, false, false] rfl rfl (one_of HT_.out (by kernel_rfl)) (by decide) (fun K hK => ?_)
    refine goes_ Tryd.func11 (by kernel_rfl) rfl #[.agg #[.slice Ao14 t286.length co14, .int .i64 t289, .slice Ao16 t290.length co16, .bool t293, .int .i64 t294, .int .i64 t295]] (by rfl) rfl rfl qa_ ?_
    with_reducible refine (letterboxlaw15_specOf.calls (fun k_ => some k_ = (.slice Ao14 t286.length co14 : Value).ownBlock) (.slice Ao14 t286.length co14) t286 t289 (fun k_ => some k_ = (.slice Ao16 t290.length co16 : Value).ownBlock) (.slice Ao16 t290.length co16) t290 t293 t294 t295 t310 t313 t314 t317 t318 t319 w _ ?side1 ?side2 ?side3 A9.out).mono ?_
    (case side1 => repeat (first | (with_reducible first | exact HB.out | apply below_alloc | apply pw_below_drewN | apply below_drew1 | refine below_set ?_ GE297.out | refine below_set ?_ GE309.out) | exact HB.out))
    (case side2 => exact Kd.R_tight rfl HO288.out)
    (case side3 => exact Kd.R_tight rfl HO292.out)
    rintro e w25 ⟨v311, v315, rfl, ho0, ho1, hb, hkp⟩
    refine ⟨_, rfl, ?_⟩
    have n0_ := Aside0.mk (blk_kept (qk_ BK297.out) hkp (fun hs_ => Or.elim hs_ (fun e_ => (fun e_ => (Kd.R_ne HO288.out BK297.out (by decide)) e_) e_) (fun e_ => (fun e_ => (Kd.R_ne HO292.out BK297.out (by decide)) e_) e_)))
    have n1_ := Aside0.mk (Kd.R_mono (ok' := fun k_ => some k_ ≠ (v311 : Value).ownBlock) (Kd.R_keptB ((Kd.R_apart' HO300.out (Kd.R_typed HO292.out) (by decide))) hkp (fun k_ hk_ hs_ => Or.elim hs_ (fun e_ => (hk_.1) e_) (fun e_ => (hk_.2) e_))) (fun k_ hk_ => fun e_ => Or.elim (ho0.1 k_ e_.symm) (fun hs_ => hk_.2.1 hs_) (fun hn_ => Nat.not_le.2 hk_.2.2 hn_)))
    have n2_ := Aside0.mk (Kd.R_mono (ok' := fun k_ => some k_ ≠ (v315 : Value).ownBlock) (Kd.R_keptB ((Kd.R_apart' HO304.out (Kd.R_typed HO288.out) (by decide))) hkp (fun k_ hk_ hs_ => Or.elim hs_ (fun e_ => (hk_.2) e_) (fun e_ => (hk_.1) e_))) (fun k_ hk_ => fun e_ => Or.elim (ho1.1 k_ e_.symm) (fun hs_ => hk_.2.1 hs_) (fun hn_ => Nat.not_le.2 hk_.2.2 hn_)))
    have n3_ := Aside0.mk (blk_kept (qk_ BK309.out) hkp (fun hs_ => Or.elim hs_ (fun e_ => (fun e_ => (Kd.R_ne HO288.out BK309.out (by decide)) e_) e_) (fun e_ => (fun e_ => (Kd.R_ne HO292.out BK309.out (by decide)) e_) e_)))
    have n4_ := Aside0.mk (Kd.R_mono (ok' := fun k_ => some k_ ≠ (.slice Ao19 t298.length co19 : Value).ownBlock) ho0 (fun k_ hk_ => Or.elim hk_ (fun hs_ => Or.elim hs_ (fun hs_ => fun e_ => ((((Kd.R_apart' HO300.out (Kd.R_typed HO292.out) (by decide))).1 k_ e_.symm).1) hs_) (fun hs_ => fun e_ => ((((Kd.R_apart' HO300.out (Kd.R_typed HO292.out) (by decide))).1 k_ e_.symm).2) hs_)) (fun hn_ => (Kd.fresh' (Kd.R_lt (ql_ HO300.out)) k_ hn_))))
    have n5_ := Aside0.mk (Kd.R_mono (ok' := fun k_ => some k_ ≠ (.slice Ao22 t302.length co22 : Value).ownBlock) ho1 (fun k_ hk_ => Or.elim hk_ (fun hs_ => Or.elim hs_ (fun hs_ => fun e_ => ((((Kd.R_apart' HO304.out (Kd.R_typed HO288.out) (by decide))).1 k_ e_.symm).2) hs_) (fun hs_ => fun e_ => ((((Kd.R_apart' HO304.out (Kd.R_typed HO288.out) (by decide))).1 k_ e_.symm).1) hs_)) (fun hn_ => (Kd.fresh' (Kd.R_lt (ql_ HO304.out)) k_ hn_))))
    have n6_ := Aside0.mk (hb)
    clear BK297
    clear HO300
    clear HO304
    clear BK309
    clear HB
    clear HO288
    clear HO292
    have BK297 := n0_
    have HO300 := n1_
    have HO304 := n2_
    have BK309 := n3_
    have HO312 := n4_
    have HO316 := n5_
    have HB := n6_
    clear n0_ n1_ n2_ n3_ n4_ n5_ n6_
    (try clear hb)
    (try clear hkp)
    (try clear ho0)
    (try clear ho1)
    obtain ⟨Ao26, co26, eo26⟩ := Kd.R_slice HO312.out
    (first | subst eo26 | (injection eo26 with f1_ f2_ f3_; have f4_ := f1_.symm; have f5_ := f3_.symm; clear f1_ f2_ f3_; subst f4_; subst f5_))
    obtain ⟨Ao27, co27, eo27⟩ := Kd.R_slice HO316.out
    (first | subst eo27 | (injection eo27 with f1_ f2_ f3_; have f4_ := f1_.symm; have f5_ := f3_.symm; clear f1_ f2_ f3_; subst f4_; subst f5_))
    refine hK.out _ _ ⟨(blk_cell BK297.out 0).trans rfl, (blk_cell BK297.out 1).trans rfl, (blk_cell BK297.out 2).trans rfl, (blk_cell BK297.out 3).trans rfl, (blk_cell BK297.out 4).trans rfl, (blk_cell BK297.out 5).trans rfl, (blk_cell BK309.out 0).trans rfl, (blk_cell BK309.out 1).trans rfl, (blk_cell BK309.out 2).trans rfl, (blk_cell BK309.out 3).trans rfl, (blk_cell BK309.out 4).trans rfl, (blk_cell BK309.out 5).trans rfl⟩ (fun hHeld => ?_)
    clear hK K
    refine norm_ (a' := ?_) ?_ ?_
    rotate_left
    ·show Act.put _ (some 29) _ = _
     simp only [Act.put, List.setIfInBounds_toArray, List.set_cons_zero, List.set_cons_succ, i64_w, i32_w]
     rfl
    refine one_ (i := 7) (N := some 31) #[true, true, true, true, true, true, true, true, false, false] rfl rfl (one_of HT_.out (by kernel_rfl)) (by decide) (fun K hK => ?_)
    refine goes_ Tryd.func10 (by kernel_rfl) rfl #[.agg #[.slice Ao26 t310.length co26, .int .i64 t313, .slice Ao27 t314.length co27, .bool t317, .int .i64 t318, .int .i64 t319], .agg #[.slice Ao19 t298.length co19, .int .i64 t301, .slice Ao22 t302.length co22, .bool t305, .int .i64 t306, .int .i64 t307]] (by rfl) rfl rfl qa_ ?_
    with_reducible refine (letterboxref15_Same.calls k _ _ t310 t313 _ _ t314 t317 t318 t319 _ _ t298 t301 _ _ t302 t305 t306 t307 t320 _ ?side1 ?side2 ?side3 ?side4 ?side5 ?side6 ?side7 ?side8 A10.out).mono ?_
    (case side1 => repeat (first | exact (Kd.R_reads' HO312.out).2.2 | (with_reducible refine Kd.C_alloc ?_ _) | (with_reducible refine Kd.C_drewN ?_ _) | (with_reducible refine Kd.C_drew ?_)))
    (case side2 => exact (Kd.R_reads' HO312.out).2.1)
    (case side3 => repeat (first | exact (Kd.R_reads' HO316.out).2.2 | (with_reducible refine Kd.C_alloc ?_ _) | (with_reducible refine Kd.C_drewN ?_ _) | (with_reducible refine Kd.C_drew ?_)))
    (case side4 => exact (Kd.R_reads' HO316.out).2.1)
    (case side5 => repeat (first | exact (Kd.R_reads' HO300.out).2.2 | (with_reducible refine Kd.C_alloc ?_ _) | (with_reducible refine Kd.C_drewN ?_ _) | (with_reducible refine Kd.C_drew ?_)))
    (case side6 => exact (Kd.R_reads' HO300.out).2.1)
    (case side7 => repeat (first | exact (Kd.R_reads' HO304.out).2.2 | (with_reducible refine Kd.C_alloc ?_ _) | (with_reducible refine Kd.C_drewN ?_ _) | (with_reducible refine Kd.C_drew ?_)))
    (case side8 => exact (Kd.R_reads' HO304.out).2.1)
    rintro e w28 ⟨rfl, hb⟩
    refine ⟨_, rfl, ?_⟩
    have n0_ := Aside0.mk (Kd.R_below (ql_ HO300.out) hb)
    have n1_ := Aside0.mk (Kd.R_below (ql_ HO304.out) hb)
    have n2_ := Aside0.mk (Kd.R_below (ql_ HO312.out) hb)
    have n3_ := Aside0.mk (Kd.R_below (ql_ HO316.out) hb)
    have n4_ := Aside0.mk (blk_below (g := gb297) (o := .cells #[.slice Ao14 t286.length co14, .int .i64 t289, .slice Ao16 t290.length co16, .bool t293, .int .i64 t294, .int .i64 t295] 26 (0, 0)) (qk_ BK297.out) hb)
    have n5_ := Aside0.mk (blk_below (g := gb309) (o := .cells #[.slice Ao19 t298.length co19, .int .i64 t301, .slice Ao22 t302.length co22, .bool t305, .int .i64 t306, .int .i64 t307] 30 (0, 0)) (qk_ BK309.out) hb)
    have n6_ := Aside0.mk (below_step (qb_ HB.out) hb)
    clear HO300
    clear HO304
    clear HO312
    clear HO316
    clear BK297
    clear BK309
    clear HB
    have HO300 := n0_
    have HO304 := n1_
    have HO312 := n2_
    have HO316 := n3_
    have BK297 := n4_
    have BK309 := n5_
    have HB := n6_
    clear n0_ n1_ n2_ n3_ n4_ n5_ n6_
    (try clear hb)
    (try clear hb2)
    (try clear hk)
    (try clear hi)
    refine hK.out _ _ ⟨(blk_cell BK297.out 0).trans rfl, (blk_cell BK297.out 1).trans rfl, (blk_cell BK297.out 2).trans rfl, (blk_cell BK297.out 3).trans rfl, (blk_cell BK297.out 4).trans rfl, (blk_cell BK297.out 5).trans rfl, (blk_cell BK309.out 0).trans rfl, (blk_cell BK309.out 1).trans rfl, (blk_cell BK309.out 2).trans rfl, (blk_cell BK309.out 3).trans rfl, (blk_cell BK309.out 4).trans rfl, (blk_cell BK309.out 5).trans rfl⟩ (fun hHeld => ?_)
    clear hK K
    refine norm_ (a' := ?_) ?_ ?_
    rotate_left
    ·show Act.put _ (some 31) _ = _
     simp only [Act.put, List.setIfInBounds_toArray, List.set_cons_zero, List.set_cons_succ, i64_w, i32_w]
     rfl
    refine pure_ (i := 8) (N := some 32) (v := ?_) (a' := ?_) #[true, true, true, true, true, true, true, true, true, false] rfl rfl (any_of HT_.out (by kernel_rfl)) (fun _ _ _ h => h) (Or.inl ⟨by rfl, ?_⟩) ?_ ?_
    rotate_left
    ·intro w'
     go_simp
     with_reducible rfl
    rotate_left
    ·simp only [Act.put, List.setIfInBounds_toArray, List.set_cons_zero, List.set_cons_succ, i64_w, i32_w]
     rfl
    refine pure_ (i := 9) (N := some 2) (v := ?_) (a' := ?_) #[true, true, true, true, true, true, true, true, true, true] rfl rfl (any_of HT_.out (by kernel_rfl)) (fun _ _ _ h => h) (Or.inl ⟨by rfl, ?_⟩) ?_ ?_
    rotate_left
    ·intro w'
     go_simp
     with_reducible rfl
    rotate_left
    ·simp only [Act.put, List.setIfInBounds_toArray, List.set_cons_zero, List.set_cons_succ, i64_w, i32_w]
     rfl
    refine done_ (done_of HT_.out (by kernel_rfl)) ?_
    try go_wp2
    go_ret
    exact ⟨qw_, qb_ HB.out⟩
   ·rw [if_neg c8] at H
    have c8b0 : (t296 == t308) = false := beq_eq_false_iff_ne.mpr c8
    have c8b1 : (t296 != t308) = true := bne_iff_ne.mpr c8
    obtain rfl := Option.some.inj H
    go_enter Tryd.func3, Tryd.ntmps3
    try go_wp2_with (first | ((with_reducible refine gate_callee (f := 7) rfl ?_); refine goesL_ (some 8) rfl rfl Tryd.func7 (by kernel_rfl) rfl #[] rfl qa_ ?_; (with_reducible refine (letterboxlaw15_awake.calls k  true _ A2.out).mono ?_); rintro e w29 ⟨rfl, hb⟩; refine ⟨_, rfl, ?_⟩; have n0_ := Aside0.mk (below_step (qb_ HB.out) hb); clear HB; have HB := n0_; clear n0_; (try clear hb); (try clear hb2); (try clear hk); (try clear hi)) | ((with_reducible refine gate_callee (f := 8) rfl ?_); refine goesL_ (some 16) rfl rfl Tryd.func8 (by kernel_rfl) rfl #[.string a0] rfl qa_ ?_; (with_reducible refine (section_Parse.calls k a0 t286 t289 t290 t293 t294 t295 t296 _ A6.out).mono ?_); rintro e w30 ⟨v287, v291, rfl, ho0, ho1, hb⟩; refine ⟨_, rfl, ?_⟩; have n0_ := Aside0.mk (Kd.R_lower ho0 (below_size (qb_ HB.out))); have n1_ := Aside0.mk (Kd.R_lower ho1 (below_size (qb_ HB.out))); have n2_ := Aside0.mk (below_step (qb_ HB.out) hb); clear HB; have HO288 := n0_; have HO292 := n1_; have HB := n2_; clear n0_ n1_ n2_; (try clear hb); (try clear hb2); (try clear hk); (try clear hi); (try clear ho0); (try clear ho1)) | ((with_reducible refine gate_dst (N := 4) rfl ?_); refine box_event ?hg (N := 4) ?hd (cs := #[.slice none 0 0, .int .i64 0, .slice none 0 0, .bool false, .int .i64 0, .int .i64 0]) (t := 26) ?hr ?_; (case hd => rfl); (case hg => rfl); (case hr => first | (go_simp; done) | (go_simp; rfl)); intro gb297 hg w31 hbox hb; have n0_ := Aside0.mk (Kd.R_below (ql_ HO288.out) hb); have n1_ := Aside0.mk (Kd.R_below (ql_ HO292.out) hb); have n2_ := Aside0.mk (below_step (qb_ HB.out) hb); have n3_ := Aside0.mk (hbox); have n4_ := Aside0.mk ((by rw [hg]; exact (below_size (qb_ HB.out)) : w.heap.size ≤ gb297)); have n5_ := Aside0.mk ((by rw [hg]; exact (below_size (qb_ HB.out)) : w.heap.size ≤ gb297)); clear HO288; clear HO292; clear HB; have HO288 := n0_; have HO292 := n1_; have HB := n2_; have BK297 := n3_; have GW297 := n4_; have GE297 := n5_; clear n0_ n1_ n2_ n3_ n4_ n5_; clear hb hbox hg; obtain ⟨Ao32, co32, eo32⟩ := Kd.R_slice HO288.out; subst eo32; have hcz33_0 : w31.cell? ⟨gb297, 0, none⟩ = some (.slice none 0 0) := (blk_cell BK297.out 0).trans rfl; have hcz33_1 : w31.cell? ⟨gb297, 1, none⟩ = some (.int .i64 0) := (blk_cell BK297.out 1).trans rfl; have hcz33_2 : w31.cell? ⟨gb297, 2, none⟩ = some (.slice none 0 0) := (blk_cell BK297.out 2).trans rfl; have hcz33_3 : w31.cell? ⟨gb297, 3, none⟩ = some (.bool false) := (blk_cell BK297.out 3).trans rfl; have hcz33_4 : w31.cell? ⟨gb297, 4, none⟩ = some (.int .i64 0) := (blk_cell BK297.out 4).trans rfl; have hcz33_5 : w31.cell? ⟨gb297, 5, none⟩ = some (.int .i64 0) := (blk_cell BK297.out 5).trans rfl; have hfz33_0 := blk_frozen BK297.out 0; have hfz33_1 := blk_frozen BK297.out 1; have hfz33_2 := blk_frozen BK297.out 2; have hfz33_3 := blk_frozen BK297.out 3; have hfz33_4 := blk_frozen BK297.out 4; have hfz33_5 := blk_frozen BK297.out 5; obtain ⟨Ao34, co34, eo34⟩ := Kd.R_slice HO292.out; subst eo34) | ((with_reducible refine gate_callee (f := 9) rfl ?_); refine goesL_ (some 21) rfl rfl Tryd.func9 (by kernel_rfl) rfl #[.string a0] rfl qa_ ?_; (with_reducible refine (letterboxref15_Parse.calls k a0 t298 t301 t302 t305 t306 t307 t308 _ A7.out).mono ?_); rintro e w35 ⟨v299, v303, rfl, ho0, ho1, hb⟩; refine ⟨_, rfl, ?_⟩; have n0_ := Aside0.mk (Kd.R_elder' (by (with_reducible repeat (first | apply Kd.R_alloc | apply Kd.R_drewN | apply Kd.R_drew)); exact (Kd.R_mono (Kd.R_far (p := ⟨gb297, 5, none⟩) (Kd.R_far (p := ⟨gb297, 4, none⟩) (Kd.R_far (p := ⟨gb297, 3, none⟩) (Kd.R_far (p := ⟨gb297, 2, none⟩) (Kd.R_far (p := ⟨gb297, 1, none⟩) (Kd.R_far (p := ⟨gb297, 0, none⟩) (Kd.R_types HO288.out BK297.out (by decide)) (fun _ hk => hk.2) (.slice Ao32 t286.length co32)) (fun _ hk => hk.2) (.int .i64 t289)) (fun _ hk => hk.2) (.slice Ao34 t290.length co34)) (fun _ hk => hk.2) (.bool t293)) (fun _ hk => hk.2) (.int .i64 t294)) (fun _ hk => hk.2) (.int .i64 t295)) (fun _ h_ => h_.1))) (Kd.R_base ho0) hb); have n1_ := Aside0.mk (Kd.R_elder' (by (with_reducible repeat (first | apply Kd.R_alloc | apply Kd.R_drewN | apply Kd.R_drew)); exact (Kd.R_mono (Kd.R_far (p := ⟨gb297, 5, none⟩) (Kd.R_far (p := ⟨gb297, 4, none⟩) (Kd.R_far (p := ⟨gb297, 3, none⟩) (Kd.R_far (p := ⟨gb297, 2, none⟩) (Kd.R_far (p := ⟨gb297, 1, none⟩) (Kd.R_far (p := ⟨gb297, 0, none⟩) (Kd.R_types HO292.out BK297.out (by decide)) (fun _ hk => hk.2) (.slice Ao32 t286.length co32)) (fun _ hk => hk.2) (.int .i64 t289)) (fun _ hk => hk.2) (.slice Ao34 t290.length co34)) (fun _ hk => hk.2) (.bool t293)) (fun _ hk => hk.2) (.int .i64 t294)) (fun _ hk => hk.2) (.int .i64 t295)) (fun _ h_ => h_.1))) (Kd.R_base ho1) hb); have n2_ := Aside0.mk (Kd.R_lower (Kd.R_new' ho0 (Kd.R_lt (by (with_reducible repeat (first | apply Kd.R_alloc | apply Kd.R_drewN | apply Kd.R_drew)); exact (Kd.R_mono (Kd.R_far (p := ⟨gb297, 5, none⟩) (Kd.R_far (p := ⟨gb297, 4, none⟩) (Kd.R_far (p := ⟨gb297, 3, none⟩) (Kd.R_far (p := ⟨gb297, 2, none⟩) (Kd.R_far (p := ⟨gb297, 1, none⟩) (Kd.R_far (p := ⟨gb297, 0, none⟩) (Kd.R_types HO288.out BK297.out (by decide)) (fun _ hk => hk.2) (.slice Ao32 t286.length co32)) (fun _ hk => hk.2) (.int .i64 t289)) (fun _ hk => hk.2) (.slice Ao34 t290.length co34)) (fun _ hk => hk.2) (.bool t293)) (fun _ hk => hk.2) (.int .i64 t294)) (fun _ hk => hk.2) (.int .i64 t295)) (fun _ h_ => h_.1))))) (below_size (qb_ HB.out))); have n3_ := Aside0.mk (Kd.R_lower (Kd.R_new' ho1 (Kd.R_lt (by (with_reducible repeat (first | apply Kd.R_alloc | apply Kd.R_drewN | apply Kd.R_drew)); exact (Kd.R_mono (Kd.R_far (p := ⟨gb297, 5, none⟩) (Kd.R_far (p := ⟨gb297, 4, none⟩) (Kd.R_far (p := ⟨gb297, 3, none⟩) (Kd.R_far (p := ⟨gb297, 2, none⟩) (Kd.R_far (p := ⟨gb297, 1, none⟩) (Kd.R_far (p := ⟨gb297, 0, none⟩) (Kd.R_types HO292.out BK297.out (by decide)) (fun _ hk => hk.2) (.slice Ao32 t286.length co32)) (fun _ hk => hk.2) (.int .i64 t289)) (fun _ hk => hk.2) (.slice Ao34 t290.length co34)) (fun _ hk => hk.2) (.bool t293)) (fun _ hk => hk.2) (.int .i64 t294)) (fun _ hk => hk.2) (.int .i64 t295)) (fun _ h_ => h_.1))))) (below_size (qb_ HB.out))); have n4_ := Aside0.mk (blk_below (g := gb297) (o := .cells #[.slice Ao32 t286.length co32, .int .i64 t289, .slice Ao34 t290.length co34, .bool t293, .int .i64 t294, .int .i64 t295] 26 (0, 0)) (qs6_ (qk_ BK297.out)) hb); have n5_ := Aside0.mk (below_step (qb_ HB.out) hb); clear HO288; clear HO292; clear BK297; clear HB; have HO288 := n0_; have HO292 := n1_; have HO300 := n2_; have HO304 := n3_; have BK297 := n4_; have HB := n5_; clear n0_ n1_ n2_ n3_ n4_ n5_; (try clear hb); (try clear hb2); (try clear hk); (try clear hi); (try clear ho0); (try clear ho1)) | ((with_reducible refine gate_dst (N := 6) rfl ?_); refine box_event ?hg (N := 6) ?hd (cs := #[.slice none 0 0, .int .i64 0, .slice none 0 0, .bool false, .int .i64 0, .int .i64 0]) (t := 30) ?hr ?_; (case hd => rfl); (case hg => rfl); (case hr => first | (go_simp; done) | (go_simp; rfl)); intro gb309 hg w36 hbox hb; have n0_ := Aside0.mk (Kd.R_below (ql_ HO288.out) hb); have n1_ := Aside0.mk (Kd.R_below (ql_ HO292.out) hb); have n2_ := Aside0.mk (Kd.R_below (ql_ HO300.out) hb); have n3_ := Aside0.mk (Kd.R_below (ql_ HO304.out) hb); have n4_ := Aside0.mk (blk_below (g := gb297) (o := .cells #[.slice Ao32 t286.length co32, .int .i64 t289, .slice Ao34 t290.length co34, .bool t293, .int .i64 t294, .int .i64 t295] 26 (0, 0)) (qk_ BK297.out) hb); have n5_ := Aside0.mk (below_step (qb_ HB.out) hb); have n6_ := Aside0.mk (hbox); have n7_ := Aside0.mk ((by rw [hg]; exact (below_size (qb_ HB.out)) : w.heap.size ≤ gb309)); have n8_ := Aside0.mk ((by rw [hg]; exact (below_size (qb_ HB.out)) : w.heap.size ≤ gb309)); have n9_ := Aside0.mk ((by rw [hg]; exact Nat.ne_of_lt (blk_lt (g := gb297) (o := .cells #[.slice Ao32 t286.length co32, .int .i64 t289, .slice Ao34 t290.length co34, .bool t293, .int .i64 t294, .int .i64 t295] 26 (0, 0)) (qk_ BK297.out)) : gb297 ≠ gb309)); have n10_ := Aside0.mk ((by rw [hg]; exact Nat.ne_of_gt (blk_lt (g := gb297) (o := .cells #[.slice Ao32 t286.length co32, .int .i64 t289, .slice Ao34 t290.length co34, .bool t293, .int .i64 t294, .int .i64 t295] 26 (0, 0)) (qk_ BK297.out)) : gb309 ≠ gb297)); clear HO288; clear HO292; clear HO300; clear HO304; clear BK297; clear HB; have HO288 := n0_; have HO292 := n1_; have HO300 := n2_; have HO304 := n3_; have BK297 := n4_; have HB := n5_; have BK309 := n6_; have GW309 := n7_; have GE309 := n8_; have NB297_309 := n9_; have NB309_297 := n10_; clear n0_ n1_ n2_ n3_ n4_ n5_ n6_ n7_ n8_ n9_ n10_; clear hb hbox hg; obtain ⟨Ao37, co37, eo37⟩ := Kd.R_slice HO300.out; subst eo37; have hnb38 := NB309_297.out; have hnc38 := NB297_309.out; have hcz39_0 : w36.cell? ⟨gb309, 0, none⟩ = some (.slice none 0 0) := (blk_cell BK309.out 0).trans rfl; have hcz39_1 : w36.cell? ⟨gb309, 1, none⟩ = some (.int .i64 0) := (blk_cell BK309.out 1).trans rfl; have hcz39_2 : w36.cell? ⟨gb309, 2, none⟩ = some (.slice none 0 0) := (blk_cell BK309.out 2).trans rfl; have hcz39_3 : w36.cell? ⟨gb309, 3, none⟩ = some (.bool false) := (blk_cell BK309.out 3).trans rfl; have hcz39_4 : w36.cell? ⟨gb309, 4, none⟩ = some (.int .i64 0) := (blk_cell BK309.out 4).trans rfl; have hcz39_5 : w36.cell? ⟨gb309, 5, none⟩ = some (.int .i64 0) := (blk_cell BK309.out 5).trans rfl; have hfz39_0 := blk_frozen BK309.out 0; have hfz39_1 := blk_frozen BK309.out 1; have hfz39_2 := blk_frozen BK309.out 2; have hfz39_3 := blk_frozen BK309.out 3; have hfz39_4 := blk_frozen BK309.out 4; have hfz39_5 := blk_frozen BK309.out 5; obtain ⟨Ao40, co40, eo40⟩ := Kd.R_slice HO304.out; subst eo40))
    have n0_ : Aside0 (Kd.R (Kd.int .i64) 3 ((((((w36.setCell ⟨gb309, 0, none⟩ (.slice Ao37 t298.length co37)).setCell ⟨gb309, 1, none⟩ (.int .i64 t301)).setCell ⟨gb309, 2, none⟩ (.slice Ao40 t302.length co40)).setCell ⟨gb309, 3, none⟩ (.bool t305)).setCell ⟨gb309, 4, none⟩ (.int .i64 t306)).setCell ⟨gb309, 5, none⟩ (.int .i64 t307)) w.heap.size (fun k_ => some k_ ≠ (.slice Ao37 t298.length co37 : Value).ownBlock) (.slice Ao32 t286.length co32) t286) := ⟨by (with_reducible repeat (first | apply Kd.R_alloc | apply Kd.R_drewN | apply Kd.R_drew)); exact Kd.R_mono (Kd.R_far (p := ⟨gb309, 5, none⟩) (Kd.R_far (p := ⟨gb309, 4, none⟩) (Kd.R_far (p := ⟨gb309, 3, none⟩) (Kd.R_far (p := ⟨gb309, 2, none⟩) (Kd.R_far (p := ⟨gb309, 1, none⟩) (Kd.R_far (p := ⟨gb309, 0, none⟩) (Kd.R_types HO288.out BK309.out (by decide)) (fun _ hk => hk.2) (.slice Ao37 t298.length co37)) (fun _ hk => hk.2) (.int .i64 t301)) (fun _ hk => hk.2) (.slice Ao40 t302.length co40)) (fun _ hk => hk.2) (.bool t305)) (fun _ hk => hk.2) (.int .i64 t306)) (fun _ hk => hk.2) (.int .i64 t307)) (fun _ hk => hk.1.2)⟩
    have n1_ : Aside0 (Kd.R Kd.string 9 ((((((w36.setCell ⟨gb309, 0, none⟩ (.slice Ao37 t298.length co37)).setCell ⟨gb309, 1, none⟩ (.int .i64 t301)).setCell ⟨gb309, 2, none⟩ (.slice Ao40 t302.length co40)).setCell ⟨gb309, 3, none⟩ (.bool t305)).setCell ⟨gb309, 4, none⟩ (.int .i64 t306)).setCell ⟨gb309, 5, none⟩ (.int .i64 t307)) w.heap.size (fun k_ => some k_ ≠ (.slice Ao40 t302.length co40 : Value).ownBlock) (.slice Ao34 t290.length co34) t290) := ⟨by (with_reducible repeat (first | apply Kd.R_alloc | apply Kd.R_drewN | apply Kd.R_drew)); exact Kd.R_mono (Kd.R_far (p := ⟨gb309, 5, none⟩) (Kd.R_far (p := ⟨gb309, 4, none⟩) (Kd.R_far (p := ⟨gb309, 3, none⟩) (Kd.R_far (p := ⟨gb309, 2, none⟩) (Kd.R_far (p := ⟨gb309, 1, none⟩) (Kd.R_far (p := ⟨gb309, 0, none⟩) (Kd.R_types HO292.out BK309.out (by decide)) (fun _ hk => hk.2) (.slice Ao37 t298.length co37)) (fun _ hk => hk.2) (.int .i64 t301)) (fun _ hk => hk.2) (.slice Ao40 t302.length co40)) (fun _ hk => hk.2) (.bool t305)) (fun _ hk => hk.2) (.int .i64 t306)) (fun _ hk => hk.2) (.int .i64 t307)) (fun _ hk => hk.1.2)⟩
    have n2_ : Aside0 (Kd.R (Kd.int .i64) 3 ((((((w36.setCell ⟨gb309, 0, none⟩ (.slice Ao37 t298.length co37)).setCell ⟨gb309, 1, none⟩ (.int .i64 t301)).setCell ⟨gb309, 2, none⟩ (.slice Ao40 t302.length co40)).setCell ⟨gb309, 3, none⟩ (.bool t305)).setCell ⟨gb309, 4, none⟩ (.int .i64 t306)).setCell ⟨gb309, 5, none⟩ (.int .i64 t307)) w.heap.size (fun k_ => some k_ ≠ (.slice Ao32 t286.length co32 : Value).ownBlock) (.slice Ao37 t298.length co37) t298) := ⟨by (with_reducible repeat (first | apply Kd.R_alloc | apply Kd.R_drewN | apply Kd.R_drew)); exact Kd.R_mono (Kd.R_far (p := ⟨gb309, 5, none⟩) (Kd.R_far (p := ⟨gb309, 4, none⟩) (Kd.R_far (p := ⟨gb309, 3, none⟩) (Kd.R_far (p := ⟨gb309, 2, none⟩) (Kd.R_far (p := ⟨gb309, 1, none⟩) (Kd.R_far (p := ⟨gb309, 0, none⟩) (Kd.R_types HO300.out BK309.out (by decide)) (fun _ hk => hk.2) (.slice Ao37 t298.length co37)) (fun _ hk => hk.2) (.int .i64 t301)) (fun _ hk => hk.2) (.slice Ao40 t302.length co40)) (fun _ hk => hk.2) (.bool t305)) (fun _ hk => hk.2) (.int .i64 t306)) (fun _ hk => hk.2) (.int .i64 t307)) (fun _ hk => hk.1.2)⟩
    have n3_ : Aside0 (Kd.R Kd.string 9 ((((((w36.setCell ⟨gb309, 0, none⟩ (.slice Ao37 t298.length co37)).setCell ⟨gb309, 1, none⟩ (.int .i64 t301)).setCell ⟨gb309, 2, none⟩ (.slice Ao40 t302.length co40)).setCell ⟨gb309, 3, none⟩ (.bool t305)).setCell ⟨gb309, 4, none⟩ (.int .i64 t306)).setCell ⟨gb309, 5, none⟩ (.int .i64 t307)) w.heap.size (fun k_ => some k_ ≠ (.slice Ao34 t290.length co34 : Value).ownBlock) (.slice Ao40 t302.length co40) t302) := ⟨by (with_reducible repeat (first | apply Kd.R_alloc | apply Kd.R_drewN | apply Kd.R_drew)); exact Kd.R_mono (Kd.R_far (p := ⟨gb309, 5, none⟩) (Kd.R_far (p := ⟨gb309, 4, none⟩) (Kd.R_far (p := ⟨gb309, 3, none⟩) (Kd.R_far (p := ⟨gb309, 2, none⟩) (Kd.R_far (p := ⟨gb309, 1, none⟩) (Kd.R_far (p := ⟨gb309, 0, none⟩) (Kd.R_types HO304.out BK309.out (by decide)) (fun _ hk => hk.2) (.slice Ao37 t298.length co37)) (fun _ hk => hk.2) (.int .i64 t301)) (fun _ hk => hk.2) (.slice Ao40 t302.length co40)) (fun _ hk => hk.2) (.bool t305)) (fun _ hk => hk.2) (.int .i64 t306)) (fun _ hk => hk.2) (.int .i64 t307)) (fun _ hk => hk.1.2)⟩
    have n4_ : Aside0 (((((((w36.setCell ⟨gb309, 0, none⟩ (.slice Ao37 t298.length co37)).setCell ⟨gb309, 1, none⟩ (.int .i64 t301)).setCell ⟨gb309, 2, none⟩ (.slice Ao40 t302.length co40)).setCell ⟨gb309, 3, none⟩ (.bool t305)).setCell ⟨gb309, 4, none⟩ (.int .i64 t306)).setCell ⟨gb309, 5, none⟩ (.int .i64 t307)).heap[gb297]? = some (.cells #[.slice Ao32 t286.length co32, .int .i64 t289, .slice Ao34 t290.length co34, .bool t293, .int .i64 t294, .int .i64 t295] 26 (0, 0))) := ⟨by (with_reducible repeat (first | refine blk_drewN ?_ _ | refine blk_drew ?_ | refine blk_alloc ?_ _)); refine blk_far ?_ NB297_309.out _; (with_reducible repeat (first | refine blk_drewN ?_ _ | refine blk_drew ?_ | refine blk_alloc ?_ _)); refine blk_far ?_ NB297_309.out _; (with_reducible repeat (first | refine blk_drewN ?_ _ | refine blk_drew ?_ | refine blk_alloc ?_ _)); refine blk_far ?_ NB297_309.out _; (with_reducible repeat (first | refine blk_drewN ?_ _ | refine blk_drew ?_ | refine blk_alloc ?_ _)); refine blk_far ?_ NB297_309.out _; (with_reducible repeat (first | refine blk_drewN ?_ _ | refine blk_drew ?_ | refine blk_alloc ?_ _)); refine blk_far ?_ NB297_309.out _; (with_reducible repeat (first | refine blk_drewN ?_ _ | refine blk_drew ?_ | refine blk_alloc ?_ _)); refine blk_far ?_ NB297_309.out _; (with_reducible repeat (first | refine blk_drewN ?_ _ | refine blk_drew ?_ | refine blk_alloc ?_ _)); exact BK297.out⟩
    have n5_ : Aside0 (((((((w36.setCell ⟨gb309, 0, none⟩ (.slice Ao37 t298.length co37)).setCell ⟨gb309, 1, none⟩ (.int .i64 t301)).setCell ⟨gb309, 2, none⟩ (.slice Ao40 t302.length co40)).setCell ⟨gb309, 3, none⟩ (.bool t305)).setCell ⟨gb309, 4, none⟩ (.int .i64 t306)).setCell ⟨gb309, 5, none⟩ (.int .i64 t307)).heap[gb309]? = some (.cells #[.slice Ao37 t298.length co37, .int .i64 t301, .slice Ao40 t302.length co40, .bool t305, .int .i64 t306, .int .i64 t307] 30 (0, 0))) := ⟨by (with_reducible repeat (first | refine blk_drewN ?_ _ | refine blk_drew ?_ | refine blk_alloc ?_ _)); refine blk_put (cs := #[.slice Ao37 t298.length co37, .int .i64 t301, .slice Ao40 t302.length co40, .bool t305, .int .i64 t306, .int .i64 0]) ?_ 5 _ rfl; (with_reducible repeat (first | refine blk_drewN ?_ _ | refine blk_drew ?_ | refine blk_alloc ?_ _)); refine blk_put (cs := #[.slice Ao37 t298.length co37, .int .i64 t301, .slice Ao40 t302.length co40, .bool t305, .int .i64 0, .int .i64 0]) ?_ 4 _ rfl; (with_reducible repeat (first | refine blk_drewN ?_ _ | refine blk_drew ?_ | refine blk_alloc ?_ _)); refine blk_put (cs := #[.slice Ao37 t298.length co37, .int .i64 t301, .slice Ao40 t302.length co40, .bool false, .int .i64 0, .int .i64 0]) ?_ 3 _ rfl; (with_reducible repeat (first | refine blk_drewN ?_ _ | refine blk_drew ?_ | refine blk_alloc ?_ _)); refine blk_put (cs := #[.slice Ao37 t298.length co37, .int .i64 t301, .slice none 0 0, .bool false, .int .i64 0, .int .i64 0]) ?_ 2 _ rfl; (with_reducible repeat (first | refine blk_drewN ?_ _ | refine blk_drew ?_ | refine blk_alloc ?_ _)); refine blk_put (cs := #[.slice Ao37 t298.length co37, .int .i64 0, .slice none 0 0, .bool false, .int .i64 0, .int .i64 0]) ?_ 1 _ rfl; (with_reducible repeat (first | refine blk_drewN ?_ _ | refine blk_drew ?_ | refine blk_alloc ?_ _)); refine blk_put (cs := #[.slice none 0 0, .int .i64 0, .slice none 0 0, .bool false, .int .i64 0, .int .i64 0]) ?_ 0 _ rfl; (with_reducible repeat (first | refine blk_drewN ?_ _ | refine blk_drew ?_ | refine blk_alloc ?_ _)); exact BK309.out⟩
    have n6_ : Aside0 (Below w.heap.size w ((((((w36.setCell ⟨gb309, 0, none⟩ (.slice Ao37 t298.length co37)).setCell ⟨gb309, 1, none⟩ (.int .i64 t301)).setCell ⟨gb309, 2, none⟩ (.slice Ao40 t302.length co40)).setCell ⟨gb309, 3, none⟩ (.bool t305)).setCell ⟨gb309, 4, none⟩ (.int .i64 t306)).setCell ⟨gb309, 5, none⟩ (.int .i64 t307))) := ⟨qb_ HB.out⟩
    (try clear HO288)
    (try clear HO292)
    (try clear HO300)
    (try clear HO304)
    (try clear BK297)
    (try clear BK309)
    (try clear HB)
    generalize ((((((w36.setCell ⟨gb309, 0, none⟩ (.slice Ao37 t298.length co37)).setCell ⟨gb309, 1, none⟩ (.int .i64 t301)).setCell ⟨gb309, 2, none⟩ (.slice Ao40 t302.length co40)).setCell ⟨gb309, 3, none⟩ (.bool t305)).setCell ⟨gb309, 4, none⟩ (.int .i64 t306)).setCell ⟨gb309, 5, none⟩ (.int .i64 t307)) = w41 at n0_ n1_ n2_ n3_ n4_ n5_ n6_ ⊢
    have HO288 := n0_
    have HO292 := n1_
    have HO300 := n2_
    have HO304 := n3_
    have BK297 := n4_
    have BK309 := n5_
    have HB := n6_
    clear n0_ n1_ n2_ n3_ n4_ n5_ n6_
    have n0_ := Aside0.mk (Kd.R_drew HO288.out)
    have n1_ := Aside0.mk (Kd.R_drew HO292.out)
    have n2_ := Aside0.mk (Kd.R_drew HO300.out)
    have n3_ := Aside0.mk (Kd.R_drew HO304.out)
    have n4_ := Aside0.mk (blk_drew BK297.out)
    have n5_ := Aside0.mk (blk_drew BK309.out)
    have n6_ := Aside0.mk (below_drew1 HB.out)
    clear HO288
    clear HO292
    clear HO300
    clear HO304
    clear BK297
    clear BK309
    clear HB
    have HO288 := n0_
    have HO292 := n1_
    have HO300 := n2_
    have HO304 := n3_
    have BK297 := n4_
    have BK309 := n5_
    have HB := n6_
    clear n0_ n1_ n2_ n3_ n4_ n5_ n6_
    refine start_ (n := 10) (S := fun w' => True) (ds := []) #[false, false, false, false, false, false, false, false, false, false] (by kernel_rfl) rfl rfl trivial (fun hHeld => ?_); refine with_tabW letterboxlaw15_SectionParses.tab8 letterboxlaw15_SectionParses.bits8 (fun HT_ HW_ => ?_)
    generalize w41.drew = w42 at HO288 HO292 HO300 HO304 BK297 BK309 HB hHeld ⊢
    refine pure_ (i := 0) (N := some 24) (v := ?_) (a' := ?_) #[true, false, false, false, false, false, false, false, false, false] rfl rfl (any_of HT_.out (by kernel_rfl)) (fun _ _ _ h => h) (Or.inl ⟨by rfl, ?_⟩) ?_ ?_
    rotate_left
    ·intro w'
     go_simp
     with_reducible rfl
    rotate_left
    ·simp only [Act.put, List.setIfInBounds_toArray, List.set_cons_zero, List.set_cons_succ, i64_w, i32_w]
     rfl
    refine pure_ (i := 1) (N := some 25) (v := ?_) (a' := ?_) #[true, true, false, false, false, false, false, false, false, false] rfl rfl (any_of HT_.out (by kernel_rfl)) (fun _ _ _ h => h) (Or.inl ⟨by rfl, ?_⟩) ?_ ?_
    rotate_left
    ·intro w'
     go_simp
     with_reducible rfl
    rotate_left
    ·simp only [Act.put, List.setIfInBounds_toArray, List.set_cons_zero, List.set_cons_succ, i64_w, i32_w]
     rfl
    refine pure_ (i := 2) (N := some 26) (v := ?_) (a' := ?_) #[true, true, true, false, false, false, false, false, false, false] rfl rfl (any_of HT_.out (by kernel_rfl)) (fun _ _ _ h => h) (Or.inl ⟨by rfl, ?_⟩) ?_ ?_
    rotate_left
    ·intro w'
     go_simp
     with_reducible rfl
    rotate_left
    ·simp only [Act.put, List.setIfInBounds_toArray, List.set_cons_zero, List.set_cons_succ, i64_w, i32_w]
     rfl
    refine pure_ (i := 3) (N := some 27) (v := ?_) (a' := ?_) #[true, true, true, true, false, false, false, false, false, false] rfl rfl (any_of HT_.out (by kernel_rfl)) (fun _ _ _ h => h) (Or.inl ⟨by rfl, ?_⟩) ?_ ?_
    rotate_left
    ·intro w'
     go_simp
     with_reducible rfl
    rotate_left
    ·simp only [Act.put, List.setIfInBounds_toArray, List.set_cons_zero, List.set_cons_succ, i64_w, i32_w]
     rfl
    refine pure_ (i := 4) (N := some 28) (v := undef) (a' := ?_) #[true, true, true, true, true, false, false, false, false, false] rfl rfl (any_of HT_.out (by kernel_rfl)) (fun _ _ _ h => h) (Or.inr ⟨by rfl, rfl⟩) ?_ ?_
    rotate_left
    ·simp only [Act.put, List.setIfInBounds_toArray, List.set_cons_zero, List.set_cons_succ, i64_w, i32_w]
     rfl
    refine pure_ (i := 5) (N := some 29) (v := undef) (a' := ?_) #[true, true, true, true, true, true, false, false, false, false] rfl rfl (any_of HT_.out (by kernel_rfl)) (fun _ _ _ h => h) (Or.inr ⟨by rfl, rfl⟩) ?_ ?_
    rotate_left
    ·simp only [Act.put, List.setIfInBounds_toArray, List.set_cons_zero, List.set_cons_succ, i64_w, i32_w]
     rfl
    refine pure_ (i := 6) (N := some 30) (v := undef) (a' := ?_) #[true, true, true, true, true, true, true, false, false, false] rfl rfl (any_of HT_.out (by kernel_rfl)) (fun _ _ _ h => h) (Or.inr ⟨by rfl, rfl⟩) ?_ ?_
    rotate_left
    ·simp only [Act.put, List.setIfInBounds_toArray, List.set_cons_zero, List.set_cons_succ, i64_w, i32_w]
     rfl
    refine pure_ (i := 7) (N := some 31) (v := undef) (a' := ?_) #[true, true, true, true, true, true, true, true, false, false] rfl rfl (any_of HT_.out (by kernel_rfl)) (fun _ _ _ h => h) (Or.inr ⟨by rfl, rfl⟩) ?_ ?_
    rotate_left
    ·simp only [Act.put, List.setIfInBounds_toArray, List.set_cons_zero, List.set_cons_succ, i64_w, i32_w]
     rfl
    refine pure_ (i := 8) (N := some 32) (v := ?_) (a' := ?_) #[true, true, true, true, true, true, true, true, true, false] rfl rfl (any_of HT_.out (by kernel_rfl)) (fun _ _ _ h => h) (Or.inl ⟨by rfl, ?_⟩) ?_ ?_
    rotate_left
    ·intro w'
     go_simp
     with_reducible rfl
    rotate_left
    ·simp only [Act.put, List.setIfInBounds_toArray, List.set_cons_zero, List.set_cons_succ, i64_w, i32_w]
     rfl
    refine pure_ (i := 9) (N := some 2) (v := ?_) (a' := ?_) #[true, true, true, true, true, true, true, true, true, true] rfl rfl (any_of HT_.out (by kernel_rfl)) (fun _ _ _ h => h) (Or.inl ⟨by rfl, ?_⟩) ?_ ?_
    rotate_left
    ·intro w'
     go_simp
     with_reducible rfl
    rotate_left
    ·simp only [Act.put, List.setIfInBounds_toArray, List.set_cons_zero, List.set_cons_succ, i64_w, i32_w]
     rfl
    refine done_ (done_of HT_.out (by kernel_rfl)) ?_
    try go_wp2
    go_ret
    exact ⟨qw_, qb_ HB.out⟩
 ·replace c3 := Bool.eq_false_iff.mpr c3
  subst c3
  have H1 : (some false) = some r := by rw [if_neg (show ¬ (false = true) by decide)] at H; exact H
  clear H
  have H := H1
  clear H1
  obtain rfl := Option.some.inj H
  go_enter Tryd.func3, Tryd.ntmps3
  go_wp2_with (first | ((with_reducible refine gate_callee (f := 7) rfl ?_); refine goesL_ (some 8) rfl rfl Tryd.func7 (by kernel_rfl) rfl #[] rfl qa_ ?_; (with_reducible refine (letterboxlaw15_awake.calls k  false _ A2.out).mono ?_); rintro e w43 ⟨rfl, hb⟩; refine ⟨_, rfl, ?_⟩; have n0_ := Aside0.mk (below_step (qb_ HB.out) hb); clear HB; have HB := n0_; clear n0_; (try clear hb); (try clear hb2); (try clear hk); (try clear hi)))
  go_ret
  exact ⟨qw_, qb_ HB.out⟩

/-- THE ONE PURE STATEMENT of letterboxlaw15_SectionParses: yours. -/
def letterboxlaw15_SectionParses.Pure : Prop := ∀ (a0 : ByteArray), a0.size ≤ 140737488351232 → ∃ k, letterboxlaw15_SectionParses.f k a0 = some true
theorem letterboxlaw15_SectionParses.walk (P : letterboxlaw15_SectionParses.Pure) (a0 : ByteArray) (w : World) (w0 : a0.size ≤ 140737488351232) (hL0 : sec_Words w) :
  Calls Tryd.prog 3 #[.string a0] w fun e w' => e = .returned (.bool true) ∧ Below w.heap.size w w' := by
 obtain ⟨k, h⟩ := P a0 w0
 refine (letterboxlaw15_SectionParses.calls k a0 true w h).mono ?_
 rintro e w' ⟨rfl, hd⟩
 exact ⟨rfl, hd⟩

end Go.Proofs.YtbjbagocnnffaaaDoor.P
