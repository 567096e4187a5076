-- Written by a program of this session (wip/tools/mk.sh) for this claim: it runs the kit's print with contracts of our own. Lean checks it.
import Derived.Test.YtbjbagocnnffaaaDoorPx0
import Derived.Test.YtbjbagocnnffaaaDoorWRepsOne
import Derived.Test.YtbjbagocnnffaaaDoorWGuard
import Derived.Test.YtbjbagocnnffaaaDoorZStr
namespace Go.Proofs.YtbjbagocnnffaaaDoor.P
open Go.RowKit Go.Proofs.YtbjbagocnnffaaaDoorW.PrintWords Go.Proofs.YtbjbagocnnffaaaDoorW.PrintLast Go.Proofs.YtbjbagocnnffaaaDoorW.PrintMore
attribute [-simp] Int.tmod_tmod_of_dvd
attribute [local go_sem] max2_int min2_int max_two min_two max_three min_three max_four min_four   -- for this text's walks alone
set_option linter.unusedVariables false
set_option linter.unusedSimpArgs false

/-! ### letterboxref15_Same: function 10 -/
mutual
def letterboxref15_Same.j0 : Nat → Bool → List Int → Int → List ByteArray → Bool → Int → Int → List Int → Int → List ByteArray → Bool → Int → Int → Option (Bool)
 | 0, _, _, _, _, _, _, _, _, _, _, _, _, _ => none
 | k + 1, x50, x210000, x210001, x210002, x210003, x210004, x210005, x211000, x211001, x211002, x211003, x211004, x211005 => if x50 = true then (some false) else (letterboxref15_Same.l0 k 0 x210000 x210001 x210002 x210003 x210004 x210005 x211000 x211001 x211002 x211003 x211004 x211005)
def letterboxref15_Same.l0 : Nat → Int → List Int → Int → List ByteArray → Bool → Int → Int → List Int → Int → List ByteArray → Bool → Int → Int → Option (Bool)
 | 0, _, _, _, _, _, _, _, _, _, _, _, _, _ => none
 | k + 1, x5, x210000, x210001, x210002, x210003, x210004, x210005, x211000, x211001, x211002, x211003, x211004, x211005 => if x5 < (x210000.length : Int) then (if 0 ≤ x5 then (if x5 < (x211000.length : Int) then (if (rd x210000 x5) = (rd x211000 x5) then (letterboxref15_Same.l0 k (wrap64 (x5 + 1)) x210000 x210001 x210002 x210003 x210004 x210005 x211000 x211001 x211002 x211003 x211004 x211005) else (some false)) else (none)) else (none)) else (letterboxref15_Same.l1 k 0 x210000 x210001 x210002 x210003 x210004 x210005 x211000 x211001 x211002 x211003 x211004 x211005)
def letterboxref15_Same.l1 : Nat → Int → List Int → Int → List ByteArray → Bool → Int → Int → List Int → Int → List ByteArray → Bool → Int → Int → Option (Bool)
 | 0, _, _, _, _, _, _, _, _, _, _, _, _, _ => none
 | k + 1, x6, x210000, x210001, x210002, x210003, x210004, x210005, x211000, x211001, x211002, x211003, x211004, x211005 => if x6 < (x210002.length : Int) then (if 0 ≤ x6 then (if x6 < (x211002.length : Int) then (if (rdOf ByteArray.empty x210002 x6).toList = (rdOf ByteArray.empty x211002 x6).toList then (letterboxref15_Same.l1 k (wrap64 (x6 + 1)) x210000 x210001 x210002 x210003 x210004 x210005 x211000 x211001 x211002 x211003 x211004 x211005) else (some false)) else (none)) else (none)) else (some true)
end
def letterboxref15_Same.f (k : Nat) (l0_0 : List Int) (a0_1 : Int) (l0_2 : List ByteArray) (a0_3 : Bool) (a0_4 : Int) (a0_5 : Int) (l1_0 : List Int) (a1_1 : Int) (l1_2 : List ByteArray) (a1_3 : Bool) (a1_4 : Int) (a1_5 : Int) : Option (Bool) := if a0_1 = a1_1 then (if (a0_3 != a1_3) = true then (letterboxref15_Same.j0 k true l0_0 a0_1 l0_2 a0_3 a0_4 a0_5 l1_0 a1_1 l1_2 a1_3 a1_4 a1_5) else (if a0_4 = a1_4 then (if a0_5 = a1_5 then (if (l0_0.length : Int) = (l1_0.length : Int) then (letterboxref15_Same.j0 k ((l0_2.length : Int) != (l1_2.length : Int)) l0_0 a0_1 l0_2 a0_3 a0_4 a0_5 l1_0 a1_1 l1_2 a1_3 a1_4 a1_5) else (letterboxref15_Same.j0 k true l0_0 a0_1 l0_2 a0_3 a0_4 a0_5 l1_0 a1_1 l1_2 a1_3 a1_4 a1_5)) else (letterboxref15_Same.j0 k true l0_0 a0_1 l0_2 a0_3 a0_4 a0_5 l1_0 a1_1 l1_2 a1_3 a1_4 a1_5)) else (letterboxref15_Same.j0 k true l0_0 a0_1 l0_2 a0_3 a0_4 a0_5 l1_0 a1_1 l1_2 a1_3 a1_4 a1_5))) else (letterboxref15_Same.j0 k true l0_0 a0_1 l0_2 a0_3 a0_4 a0_5 l1_0 a1_1 l1_2 a1_3 a1_4 a1_5)
theorem letterboxref15_Same.mono_l : ∀ k, (∀ y0 y1 y2 y3 y4 y5 y6 y7 y8 y9 y10 y11 y12, LeO (letterboxref15_Same.j0 k y0 y1 y2 y3 y4 y5 y6 y7 y8 y9 y10 y11 y12) (letterboxref15_Same.j0 (k + 1) y0 y1 y2 y3 y4 y5 y6 y7 y8 y9 y10 y11 y12)) ∧ (∀ y0 y1 y2 y3 y4 y5 y6 y7 y8 y9 y10 y11 y12, LeO (letterboxref15_Same.l0 k y0 y1 y2 y3 y4 y5 y6 y7 y8 y9 y10 y11 y12) (letterboxref15_Same.l0 (k + 1) y0 y1 y2 y3 y4 y5 y6 y7 y8 y9 y10 y11 y12)) ∧ (∀ y0 y1 y2 y3 y4 y5 y6 y7 y8 y9 y10 y11 y12, LeO (letterboxref15_Same.l1 k y0 y1 y2 y3 y4 y5 y6 y7 y8 y9 y10 y11 y12) (letterboxref15_Same.l1 (k + 1) y0 y1 y2 y3 y4 y5 y6 y7 y8 y9 y10 y11 y12))
 | 0 => ⟨fun _ _ _ _ _ _ _ _ _ _ _ _ _ r h => by simp [letterboxref15_Same.j0] at h, fun _ _ _ _ _ _ _ _ _ _ _ _ _ r h => by simp [letterboxref15_Same.l0] at h, fun _ _ _ _ _ _ _ _ _ _ _ _ _ r h => by simp [letterboxref15_Same.l1] at h⟩
 | k + 1 => by
  obtain ⟨ih0, ih1, ih2⟩ := letterboxref15_Same.mono_l k
  refine ⟨?_, ?_, ?_⟩
  ·intro y0 y1 y2 y3 y4 y5 y6 y7 y8 y9 y10 y11 y12
   unfold letterboxref15_Same.j0
   repeat' first
   | (with_reducible exact ih0 _ _ _ _ _ _ _ _ _ _ _ _ _)
   | (with_reducible exact ih1 _ _ _ _ _ _ _ _ _ _ _ _ _)
   | (with_reducible exact ih2 _ _ _ _ _ _ _ _ _ _ _ _ _)
   | (with_reducible exact LeO.refl _)
   | (with_reducible exact LeO.none _)
   | (with_reducible refine LeO.ite ?_ ?_)
   | (with_reducible refine LeO.bind ?_ (fun _ => ?_))
   | exact ih0 _ _ _ _ _ _ _ _ _ _ _ _ _
   | exact ih1 _ _ _ _ _ _ _ _ _ _ _ _ _
   | exact ih2 _ _ _ _ _ _ _ _ _ _ _ _ _
   | exact LeO.none _
   | refine LeO.ite ?_ ?_
   | refine LeO.bind ?_ (fun _ => ?_)
  ·intro y0 y1 y2 y3 y4 y5 y6 y7 y8 y9 y10 y11 y12
   unfold letterboxref15_Same.l0
   repeat' first
   | (with_reducible exact ih0 _ _ _ _ _ _ _ _ _ _ _ _ _)
   | (with_reducible exact ih1 _ _ _ _ _ _ _ _ _ _ _ _ _)
   | (with_reducible exact ih2 _ _ _ _ _ _ _ _ _ _ _ _ _)
   | (with_reducible exact LeO.refl _)
   | (with_reducible exact LeO.none _)
   | (with_reducible refine LeO.ite ?_ ?_)
   | (with_reducible refine LeO.bind ?_ (fun _ => ?_))
   | exact ih0 _ _ _ _ _ _ _ _ _ _ _ _ _
   | exact ih1 _ _ _ _ _ _ _ _ _ _ _ _ _
   | exact ih2 _ _ _ _ _ _ _ _ _ _ _ _ _
   | exact LeO.none _
   | refine LeO.ite ?_ ?_
   | refine LeO.bind ?_ (fun _ => ?_)
  ·intro y0 y1 y2 y3 y4 y5 y6 y7 y8 y9 y10 y11 y12
   unfold letterboxref15_Same.l1
   repeat' first
   | (with_reducible exact ih0 _ _ _ _ _ _ _ _ _ _ _ _ _)
   | (with_reducible exact ih1 _ _ _ _ _ _ _ _ _ _ _ _ _)
   | (with_reducible exact ih2 _ _ _ _ _ _ _ _ _ _ _ _ _)
   | (with_reducible exact LeO.refl _)
   | (with_reducible exact LeO.none _)
   | (with_reducible refine LeO.ite ?_ ?_)
   | (with_reducible refine LeO.bind ?_ (fun _ => ?_))
   | exact ih0 _ _ _ _ _ _ _ _ _ _ _ _ _
   | exact ih1 _ _ _ _ _ _ _ _ _ _ _ _ _
   | exact ih2 _ _ _ _ _ _ _ _ _ _ _ _ _
   | exact LeO.none _
   | refine LeO.ite ?_ ?_
   | refine LeO.bind ?_ (fun _ => ?_)
theorem letterboxref15_Same.mono : ∀ a0 a1 a2 a3 a4 a5 a6 a7 a8 a9 a10 a11 k, LeO (letterboxref15_Same.f k a0 a1 a2 a3 a4 a5 a6 a7 a8 a9 a10 a11) (letterboxref15_Same.f (k + 1) a0 a1 a2 a3 a4 a5 a6 a7 a8 a9 a10 a11) := by
 intro a0 a1 a2 a3 a4 a5 a6 a7 a8 a9 a10 a11 k
 obtain ⟨ih0, ih1, ih2⟩ := letterboxref15_Same.mono_l k
 unfold letterboxref15_Same.f
 repeat' first
   | (with_reducible exact ih0 _ _ _ _ _ _ _ _ _ _ _ _ _)
   | (with_reducible exact ih1 _ _ _ _ _ _ _ _ _ _ _ _ _)
   | (with_reducible exact ih2 _ _ _ _ _ _ _ _ _ _ _ _ _)
   | (with_reducible exact LeO.refl _)
   | (with_reducible exact LeO.none _)
   | (with_reducible refine LeO.ite ?_ ?_)
   | (with_reducible refine LeO.bind ?_ (fun _ => ?_))
   | exact ih0 _ _ _ _ _ _ _ _ _ _ _ _ _
   | exact ih1 _ _ _ _ _ _ _ _ _ _ _ _ _
   | exact ih2 _ _ _ _ _ _ _ _ _ _ _ _ _
   | exact LeO.none _
   | refine LeO.ite ?_ ?_
   | refine LeO.bind ?_ (fun _ => ?_)
set_option maxHeartbeats 8000000 in
set_option maxRecDepth 100000 in
theorem letterboxref15_Same.calls (k : Nat) (A0_0 : Option Addr) (c0_0 : Nat) (l0_0 : List Int) (a0_1 : Int) (A0_2 : Option Addr) (c0_2 : Nat) (l0_2 : List ByteArray) (a0_3 : Bool) (a0_4 : Int) (a0_5 : Int) (A1_0 : Option Addr) (c1_0 : Nat) (l1_0 : List Int) (a1_1 : Int) (A1_2 : Option Addr) (c1_2 : Nat) (l1_2 : List ByteArray) (a1_3 : Bool) (a1_4 : Int) (a1_5 : Int) (r : Bool) (w : World) (hr0_0 : Kd.C (Kd.int .i64) w A0_0 l0_0.length l0_0) (hc0_0 : l0_0.length ≤ c0_0) (hr0_2 : Kd.C Kd.string w A0_2 l0_2.length l0_2) (hc0_2 : l0_2.length ≤ c0_2) (hr1_0 : Kd.C (Kd.int .i64) w A1_0 l1_0.length l1_0) (hc1_0 : l1_0.length ≤ c1_0) (hr1_2 : Kd.C Kd.string w A1_2 l1_2.length l1_2) (hc1_2 : l1_2.length ≤ c1_2) (h : letterboxref15_Same.f k l0_0 a0_1 l0_2 a0_3 a0_4 a0_5 l1_0 a1_1 l1_2 a1_3 a1_4 a1_5 = some r) :
  Calls Tryd.prog 10 #[.agg #[.slice A0_0 l0_0.length c0_0, .int .i64 a0_1, .slice A0_2 l0_2.length c0_2, .bool a0_3, .int .i64 a0_4, .int .i64 a0_5], .agg #[.slice A1_0 l1_0.length c1_0, .int .i64 a1_1, .slice A1_2 l1_2.length c1_2, .bool a1_3, .int .i64 a1_4, .int .i64 a1_5]] w fun e w' => e = .returned (.bool r) ∧ Below w.heap.size w w' := by
 have hu30 := Tryd.underlying30
 have HR0_0 := Aside0.mk hr0_0
 have HC0_0 := Aside0.mk hc0_0
 clear hr0_0 hc0_0
 have HR0_2 := Aside0.mk hr0_2
 have HC0_2 := Aside0.mk hc0_2
 clear hr0_2 hc0_2
 have HR1_0 := Aside0.mk hr1_0
 have HC1_0 := Aside0.mk hc1_0
 clear hr1_0 hc1_0
 have HR1_2 := Aside0.mk hr1_2
 have HC1_2 := Aside0.mk hc1_2
 clear hr1_2 hc1_2
 have HB := Aside0.mk (Below.refl w.heap.size w)
 have H : (if a0_1 = a1_1 then (if (a0_3 != a1_3) = true then (letterboxref15_Same.j0 k true l0_0 a0_1 l0_2 a0_3 a0_4 a0_5 l1_0 a1_1 l1_2 a1_3 a1_4 a1_5) else (if a0_4 = a1_4 then (if a0_5 = a1_5 then (if (l0_0.length : Int) = (l1_0.length : Int) then (letterboxref15_Same.j0 k ((l0_2.length : Int) != (l1_2.length : Int)) l0_0 a0_1 l0_2 a0_3 a0_4 a0_5 l1_0 a1_1 l1_2 a1_3 a1_4 a1_5) else (letterboxref15_Same.j0 k true l0_0 a0_1 l0_2 a0_3 a0_4 a0_5 l1_0 a1_1 l1_2 a1_3 a1_4 a1_5)) else (letterboxref15_Same.j0 k true l0_0 a0_1 l0_2 a0_3 a0_4 a0_5 l1_0 a1_1 l1_2 a1_3 a1_4 a1_5)) else (letterboxref15_Same.j0 k true l0_0 a0_1 l0_2 a0_3 a0_4 a0_5 l1_0 a1_1 l1_2 a1_3 a1_4 a1_5))) else (letterboxref15_Same.j0 k true l0_0 a0_1 l0_2 a0_3 a0_4 a0_5 l1_0 a1_1 l1_2 a1_3 a1_4 a1_5)) = some r := h
 clear h
 have HC3 := Aside0.mk H
 clear H
 go_enter Tryd.func10, Tryd.ntmps10
 go_upto_region 1 with (first | ((with_reducible refine gate_dst (N := 2) rfl ?_); (try (refine gate_guard (by rfl) ?_; dsimp only)); refine box_event ?hg (N := 2) ?hd (cs := #[.slice A0_0 l0_0.length c0_0, .int .i64 a0_1, .slice A0_2 l0_2.length c0_2, .bool a0_3, .int .i64 a0_4, .int .i64 a0_5]) (t := 30) ?hr ?_; (case hd => rfl); (case hg => rfl); (case hr => first | (go_simp; done) | (go_simp; rfl)); intro gb209 hg w4 hbox hb; have n0_ := Aside0.mk (below_step (qb_ HB.out) hb); have n1_ := Aside0.mk (hbox); have n2_ := Aside0.mk ((by rw [hg]; exact (below_size (qb_ HB.out)) : w.heap.size ≤ gb209)); have n3_ := Aside0.mk ((by rw [hg]; exact (below_size (qb_ HB.out)) : w.heap.size ≤ gb209)); clear HB; have HB := n0_; have BK209 := n1_; have GW209 := n2_; have GE209 := n3_; clear n0_ n1_ n2_ n3_; clear hb hbox hg) | ((with_reducible refine gate_dst (N := 3) rfl ?_); (try (refine gate_guard (by rfl) ?_; dsimp only)); refine box_event ?hg (N := 3) ?hd (cs := #[.slice A1_0 l1_0.length c1_0, .int .i64 a1_1, .slice A1_2 l1_2.length c1_2, .bool a1_3, .int .i64 a1_4, .int .i64 a1_5]) (t := 30) ?hr ?_; (case hd => rfl); (case hg => rfl); (case hr => first | (go_simp; done) | (go_simp; rfl)); intro gb210 hg w5 hbox hb; have n0_ := Aside0.mk (blk_below (g := gb209) (o := .cells #[.slice A0_0 l0_0.length c0_0, .int .i64 a0_1, .slice A0_2 l0_2.length c0_2, .bool a0_3, .int .i64 a0_4, .int .i64 a0_5] 30 (0, 0)) (qk_ BK209.out) hb); have n1_ := Aside0.mk (below_step (qb_ HB.out) hb); have n2_ := Aside0.mk (hbox); have n3_ := Aside0.mk ((by rw [hg]; exact (below_size (qb_ HB.out)) : w.heap.size ≤ gb210)); have n4_ := Aside0.mk ((by rw [hg]; exact (below_size (qb_ HB.out)) : w.heap.size ≤ gb210)); have n5_ := Aside0.mk ((by rw [hg]; exact Nat.ne_of_lt (blk_lt (g := gb209) (o := .cells #[.slice A0_0 l0_0.length c0_0, .int .i64 a0_1, .slice A0_2 l0_2.length c0_2, .bool a0_3, .int .i64 a0_4, .int .i64 a0_5] 30 (0, 0)) (qk_ BK209.out)) : gb209 ≠ gb210)); have n6_ := Aside0.mk ((by rw [hg]; exact Nat.ne_of_gt (blk_lt (g := gb209) (o := .cells #[.slice A0_0 l0_0.length c0_0, .int .i64 a0_1, .slice A0_2 l0_2.length c0_2, .bool a0_3, .int .i64 a0_4, .int .i64 a0_5] 30 (0, 0)) (qk_ BK209.out)) : gb210 ≠ gb209)); clear BK209; clear HB; have BK209 := n0_; have HB := n1_; have BK210 := n2_; have GW210 := n3_; have GE210 := n4_; have NB209_210 := n5_; have NB210_209 := n6_; clear n0_ n1_ n2_ n3_ n4_ n5_ n6_; clear hb hbox hg))
 repeat (go_quiet (first | ((with_reducible refine gate_dst (N := 2) rfl ?_); (try (refine gate_guard (by rfl) ?_; dsimp only)); refine box_event ?hg (N := 2) ?hd (cs := #[.slice A0_0 l0_0.length c0_0, .int .i64 a0_1, .slice A0_2 l0_2.length c0_2, .bool a0_3, .int .i64 a0_4, .int .i64 a0_5]) (t := 30) ?hr ?_; (case hd => rfl); (case hg => rfl); (case hr => first | (go_simp; done) | (go_simp; rfl)); intro gb209 hg w4 hbox hb; have n0_ := Aside0.mk (below_step (qb_ HB.out) hb); have n1_ := Aside0.mk (hbox); have n2_ := Aside0.mk ((by rw [hg]; exact (below_size (qb_ HB.out)) : w.heap.size ≤ gb209)); have n3_ := Aside0.mk ((by rw [hg]; exact (below_size (qb_ HB.out)) : w.heap.size ≤ gb209)); clear HB; have HB := n0_; have BK209 := n1_; have GW209 := n2_; have GE209 := n3_; clear n0_ n1_ n2_ n3_; clear hb hbox hg) | ((with_reducible refine gate_dst (N := 3) rfl ?_); (try (refine gate_guard (by rfl) ?_; dsimp only)); refine box_event ?hg (N := 3) ?hd (cs := #[.slice A1_0 l1_0.length c1_0, .int .i64 a1_1, .slice A1_2 l1_2.length c1_2, .bool a1_3, .int .i64 a1_4, .int .i64 a1_5]) (t := 30) ?hr ?_; (case hd => rfl); (case hg => rfl); (case hr => first | (go_simp; done) | (go_simp; rfl)); intro gb210 hg w5 hbox hb; have n0_ := Aside0.mk (blk_below (g := gb209) (o := .cells #[.slice A0_0 l0_0.length c0_0, .int .i64 a0_1, .slice A0_2 l0_2.length c0_2, .bool a0_3, .int .i64 a0_4, .int .i64 a0_5] 30 (0, 0)) (qk_ BK209.out) hb); have n1_ := Aside0.mk (below_step (qb_ HB.out) hb); have n2_ := Aside0.mk (hbox); have n3_ := Aside0.mk ((by rw [hg]; exact (below_size (qb_ HB.out)) : w.heap.size ≤ gb210)); have n4_ := Aside0.mk ((by rw [hg]; exact (below_size (qb_ HB.out)) : w.heap.size ≤ gb210)); have n5_ := Aside0.mk ((by rw [hg]; exact Nat.ne_of_lt (blk_lt (g := gb209) (o := .cells #[.slice A0_0 l0_0.length c0_0, .int .i64 a0_1, .slice A0_2 l0_2.length c0_2, .bool a0_3, .int .i64 a0_4, .int .i64 a0_5] 30 (0, 0)) (qk_ BK209.out)) : gb209 ≠ gb210)); have n6_ := Aside0.mk ((by rw [hg]; exact Nat.ne_of_gt (blk_lt (g := gb209) (o := .cells #[.slice A0_0 l0_0.length c0_0, .int .i64 a0_1, .slice A0_2 l0_2.length c0_2, .bool a0_3, .int .i64 a0_4, .int .i64 a0_5] 30 (0, 0)) (qk_ BK209.out)) : gb210 ≠ gb209)); clear BK209; clear HB; have BK209 := n0_; have HB := n1_; have BK210 := n2_; have GW210 := n3_; have GE210 := n4_; have NB209_210 := n5_; have NB210_209 := n6_; clear n0_ n1_ n2_ n3_ n4_ n5_ n6_; clear hb hbox hg)); go_upto_region 1 with (first | ((with_reducible refine gate_dst (N := 2) rfl ?_); (try (refine gate_guard (by rfl) ?_; dsimp only)); refine box_event ?hg (N := 2) ?hd (cs := #[.slice A0_0 l0_0.length c0_0, .int .i64 a0_1, .slice A0_2 l0_2.length c0_2, .bool a0_3, .int .i64 a0_4, .int .i64 a0_5]) (t := 30) ?hr ?_; (case hd => rfl); (case hg => rfl); (case hr => first | (go_simp; done) | (go_simp; rfl)); intro gb209 hg w4 hbox hb; have n0_ := Aside0.mk (below_step (qb_ HB.out) hb); have n1_ := Aside0.mk (hbox); have n2_ := Aside0.mk ((by rw [hg]; exact (below_size (qb_ HB.out)) : w.heap.size ≤ gb209)); have n3_ := Aside0.mk ((by rw [hg]; exact (below_size (qb_ HB.out)) : w.heap.size ≤ gb209)); clear HB; have HB := n0_; have BK209 := n1_; have GW209 := n2_; have GE209 := n3_; clear n0_ n1_ n2_ n3_; clear hb hbox hg) | ((with_reducible refine gate_dst (N := 3) rfl ?_); (try (refine gate_guard (by rfl) ?_; dsimp only)); refine box_event ?hg (N := 3) ?hd (cs := #[.slice A1_0 l1_0.length c1_0, .int .i64 a1_1, .slice A1_2 l1_2.length c1_2, .bool a1_3, .int .i64 a1_4, .int .i64 a1_5]) (t := 30) ?hr ?_; (case hd => rfl); (case hg => rfl); (case hr => first | (go_simp; done) | (go_simp; rfl)); intro gb210 hg w5 hbox hb; have n0_ := Aside0.mk (blk_below (g := gb209) (o := .cells #[.slice A0_0 l0_0.length c0_0, .int .i64 a0_1, .slice A0_2 l0_2.length c0_2, .bool a0_3, .int .i64 a0_4, .int .i64 a0_5] 30 (0, 0)) (qk_ BK209.out) hb); have n1_ := Aside0.mk (below_step (qb_ HB.out) hb); have n2_ := Aside0.mk (hbox); have n3_ := Aside0.mk ((by rw [hg]; exact (below_size (qb_ HB.out)) : w.heap.size ≤ gb210)); have n4_ := Aside0.mk ((by rw [hg]; exact (below_size (qb_ HB.out)) : w.heap.size ≤ gb210)); have n5_ := Aside0.mk ((by rw [hg]; exact Nat.ne_of_lt (blk_lt (g := gb209) (o := .cells #[.slice A0_0 l0_0.length c0_0, .int .i64 a0_1, .slice A0_2 l0_2.length c0_2, .bool a0_3, .int .i64 a0_4, .int .i64 a0_5] 30 (0, 0)) (qk_ BK209.out)) : gb209 ≠ gb210)); have n6_ := Aside0.mk ((by rw [hg]; exact Nat.ne_of_gt (blk_lt (g := gb209) (o := .cells #[.slice A0_0 l0_0.length c0_0, .int .i64 a0_1, .slice A0_2 l0_2.length c0_2, .bool a0_3, .int .i64 a0_4, .int .i64 a0_5] 30 (0, 0)) (qk_ BK209.out)) : gb210 ≠ gb209)); clear BK209; clear HB; have BK209 := n0_; have HB := n1_; have BK210 := n2_; have GW210 := n3_; have GE210 := n4_; have NB209_210 := n5_; have NB210_209 := n6_; clear n0_ n1_ n2_ n3_ n4_ n5_ n6_; clear hb hbox hg)))
 (try simp only [Act.put, List.setIfInBounds_toArray, List.set_cons_zero, List.set_cons_succ])
 go_cut [50] (fun v50 wc => ∃ (kq : Nat) (x50_2 : Bool), v50 = .bool x50_2 ∧ Aside0 (letterboxref15_Same.j0 kq x50_2 l0_0 a0_1 l0_2 a0_3 a0_4 a0_5 l1_0 a1_1 l1_2 a1_3 a1_4 a1_5 = some r) ∧ Aside0 (kq ≤ k) ∧ Aside0 (wc.heap[gb209]? = some (.cells #[(.slice A0_0 l0_0.length c0_0), .int .i64 a0_1, (.slice A0_2 l0_2.length c0_2), .bool a0_3, .int .i64 a0_4, .int .i64 a0_5] 30 (0, 0))) ∧ Aside0 (wc.heap[gb210]? = some (.cells #[(.slice A1_0 l1_0.length c1_0), .int .i64 a1_1, (.slice A1_2 l1_2.length c1_2), .bool a1_3, .int .i64 a1_4, .int .i64 a1_5] 30 (0, 0))) ∧ Aside0 (Below w.heap.size w wc))
 case first =>
  have H := HC3.out
  clear HC3
  by_cases c6 : a0_1 = a1_1
  ·rw [if_pos c6] at H
   have c6b0 : (a0_1 == a1_1) = true := beq_iff_eq.mpr c6
   have c6b1 : (a0_1 != a1_1) = false := bne_eq_false_iff_eq.mpr c6
   clear c6
   (first | rw [c6b0] | (simp only [i64_w, i32_w]; rw [c6b0]) | skip)
   by_cases c7 : (a0_3 != a1_3) = true
   ·rw [if_pos c7] at H
    have c7b0 : (a0_3 != a1_3) = true := c7
    (try (have c7b1 : decide (a0_3 = a1_3) = false := by simpa using c7))
    (try (have c7b2 : (a0_3 == a1_3) = false := by simpa using c7))
    (try (have c7b3 : ¬ (a0_3 = a1_3) := by simpa using c7))
    clear c7
    have H' := Aside0.mk H
    clear H
    have hnb8 := NB209_210.out
    have hnc8 := NB210_209.out
    obtain ⟨hcz9_0, hcz9_1, hcz9_2, hcz9_3, hcz9_4, hcz9_5, hfz9_0, hfz9_1, hfz9_2, hfz9_3, hfz9_4, hfz9_5⟩ := cz6_ BK209.out
    obtain ⟨hcz10_0, hcz10_1, hcz10_2, hcz10_3, hcz10_4, hcz10_5, hfz10_0, hfz10_1, hfz10_2, hfz10_3, hfz10_4, hfz10_5⟩ := cz6_ BK210.out
    go_wp2
    repeat (go_quiet (fail); try go_wp2)
    go_meet
    case rel => exact ⟨_, (true), qr_, H', ⟨by first | omega | exact Nat.le_refl _⟩, ⟨qk_ BK209.out⟩, ⟨qk_ BK210.out⟩, ⟨qb_ HB.out⟩⟩
   ·rw [if_neg c7] at H
    have c7b0 : (a0_3 != a1_3) = false := by simpa using c7
    (try (have c7b1 : decide (a0_3 = a1_3) = true := by simpa using c7))
    (try (have c7b2 : (a0_3 == a1_3) = true := by simpa using c7))
    clear c7
    by_cases c11 : a0_4 = a1_4
    ·rw [if_pos c11] at H
     have c11b0 : (a0_4 == a1_4) = true := beq_iff_eq.mpr c11
     have c11b1 : (a0_4 != a1_4) = false := bne_eq_false_iff_eq.mpr c11
     clear c11
     by_cases c12 : a0_5 = a1_5
     ·rw [if_pos c12] at H
      have c12b0 : (a0_5 == a1_5) = true := beq_iff_eq.mpr c12
      have c12b1 : (a0_5 != a1_5) = false := bne_eq_false_iff_eq.mpr c12
      clear c12
      by_cases c13 : (l0_0.length : Int) = (l1_0.length : Int)
      ·rw [if_pos c13] at H
       have c13b0 : ((l0_0.length : Int) == (l1_0.length : Int)) = true := beq_iff_eq.mpr c13
       have c13b1 : ((l0_0.length : Int) != (l1_0.length : Int)) = false := bne_eq_false_iff_eq.mpr c13
       have c13b2 : (l0_0.length == l1_0.length) = true := by first | simpa using c13 | (simp at c13 ⊢; omega)
       clear c13
       have H' := Aside0.mk H
       clear H
       have hnb14 := NB209_210.out
       have hnc14 := NB210_209.out
       obtain ⟨hcz15_0, hcz15_1, hcz15_2, hcz15_3, hcz15_4, hcz15_5, hfz15_0, hfz15_1, hfz15_2, hfz15_3, hfz15_4, hfz15_5⟩ := cz6_ BK209.out
       obtain ⟨hcz16_0, hcz16_1, hcz16_2, hcz16_3, hcz16_4, hcz16_5, hfz16_0, hfz16_1, hfz16_2, hfz16_3, hfz16_4, hfz16_5⟩ := cz6_ BK210.out
       go_wp2
       repeat (go_quiet (fail); try go_wp2)
       go_meet
       case rel => exact ⟨_, (((l0_2.length : Int) != (l1_2.length : Int))), qr_, H', ⟨by first | omega | exact Nat.le_refl _⟩, ⟨qk_ BK209.out⟩, ⟨qk_ BK210.out⟩, ⟨qb_ HB.out⟩⟩
      ·rw [if_neg c13] at H
       have c13b0 : ((l0_0.length : Int) == (l1_0.length : Int)) = false := beq_eq_false_iff_ne.mpr c13
       have c13b1 : ((l0_0.length : Int) != (l1_0.length : Int)) = true := bne_iff_ne.mpr c13
       have c13b2 : (l0_0.length == l1_0.length) = false := by first | simpa using c13 | (simp at c13 ⊢; omega)
       have H' := Aside0.mk H
       clear H
       have hnb17 := NB209_210.out
       have hnc17 := NB210_209.out
       obtain ⟨hcz18_0, hcz18_1, hcz18_2, hcz18_3, hcz18_4, hcz18_5, hfz18_0, hfz18_1, hfz18_2, hfz18_3, hfz18_4, hfz18_5⟩ := cz6_ BK209.out
       obtain ⟨hcz19_0, hcz19_1, hcz19_2, hcz19_3, hcz19_4, hcz19_5, hfz19_0, hfz19_1, hfz19_2, hfz19_3, hfz19_4, hfz19_5⟩ := cz6_ BK210.out
       go_wp2
       repeat (go_quiet (fail); try go_wp2)
       go_meet
       case rel => exact ⟨_, (true), qr_, H', ⟨by first | omega | exact Nat.le_refl _⟩, ⟨qk_ BK209.out⟩, ⟨qk_ BK210.out⟩, ⟨qb_ HB.out⟩⟩
     ·rw [if_neg c12] at H
      have c12b0 : (a0_5 == a1_5) = false := beq_eq_false_iff_ne.mpr c12
      have c12b1 : (a0_5 != a1_5) = true := bne_iff_ne.mpr c12
      have H' := Aside0.mk H
      clear H
      have hnb20 := NB209_210.out
      have hnc20 := NB210_209.out
      obtain ⟨hcz21_0, hcz21_1, hcz21_2, hcz21_3, hcz21_4, hcz21_5, hfz21_0, hfz21_1, hfz21_2, hfz21_3, hfz21_4, hfz21_5⟩ := cz6_ BK209.out
      obtain ⟨hcz22_0, hcz22_1, hcz22_2, hcz22_3, hcz22_4, hcz22_5, hfz22_0, hfz22_1, hfz22_2, hfz22_3, hfz22_4, hfz22_5⟩ := cz6_ BK210.out
      go_wp2
      repeat (go_quiet (fail); try go_wp2)
      go_meet
      case rel => exact ⟨_, (true), qr_, H', ⟨by first | omega | exact Nat.le_refl _⟩, ⟨qk_ BK209.out⟩, ⟨qk_ BK210.out⟩, ⟨qb_ HB.out⟩⟩
    ·rw [if_neg c11] at H
     have c11b0 : (a0_4 == a1_4) = false := beq_eq_false_iff_ne.mpr c11
     have c11b1 : (a0_4 != a1_4) = true := bne_iff_ne.mpr c11
     have H' := Aside0.mk H
     clear H
     have hnb23 := NB209_210.out
     have hnc23 := NB210_209.out
     obtain ⟨hcz24_0, hcz24_1, hcz24_2, hcz24_3, hcz24_4, hcz24_5, hfz24_0, hfz24_1, hfz24_2, hfz24_3, hfz24_4, hfz24_5⟩ := cz6_ BK209.out
     obtain ⟨hcz25_0, hcz25_1, hcz25_2, hcz25_3, hcz25_4, hcz25_5, hfz25_0, hfz25_1, hfz25_2, hfz25_3, hfz25_4, hfz25_5⟩ := cz6_ BK210.out
     go_wp2
     repeat (go_quiet (fail); try go_wp2)
     go_meet
     case rel => exact ⟨_, (true), qr_, H', ⟨by first | omega | exact Nat.le_refl _⟩, ⟨qk_ BK209.out⟩, ⟨qk_ BK210.out⟩, ⟨qb_ HB.out⟩⟩
  ·rw [if_neg c6] at H
   have c6b0 : (a0_1 == a1_1) = false := beq_eq_false_iff_ne.mpr c6
   have c6b1 : (a0_1 != a1_1) = true := bne_iff_ne.mpr c6
   (first | rw [c6b0] | (simp only [i64_w, i32_w]; rw [c6b0]) | skip)
   have H' := Aside0.mk H
   clear H
   have hnb26 := NB209_210.out
   have hnc26 := NB210_209.out
   obtain ⟨hcz27_0, hcz27_1, hcz27_2, hcz27_3, hcz27_4, hcz27_5, hfz27_0, hfz27_1, hfz27_2, hfz27_3, hfz27_4, hfz27_5⟩ := cz6_ BK209.out
   obtain ⟨hcz28_0, hcz28_1, hcz28_2, hcz28_3, hcz28_4, hcz28_5, hfz28_0, hfz28_1, hfz28_2, hfz28_3, hfz28_4, hfz28_5⟩ := cz6_ BK210.out
   go_wp2
   repeat (go_quiet (fail); try go_wp2)
   go_meet
   case rel => exact ⟨_, (true), qr_, H', ⟨by first | omega | exact Nat.le_refl _⟩, ⟨qk_ BK209.out⟩, ⟨qk_ BK210.out⟩, ⟨qb_ HB.out⟩⟩
 case rest =>
  clear HC3
  obtain ⟨kq, x50_2, rfl, HA, HJ2, BK209, BK210, HB⟩ := hcut
  cases kq with
  | zero => exact absurd HA.out (by simp [letterboxref15_Same.j0])
  | succ kj2 =>
   have H := HA.out
   clear HA
   simp only [letterboxref15_Same.j0] at H
   by_cases c29 : x50_2 = true
   ·subst c29
    have H1 : (some false) = some r := by rw [if_pos rfl] at H; exact H
    clear H
    have H := H1
    clear H1
    obtain rfl := Option.some.inj H
    go_wp2
    repeat (go_quiet (fail); try go_wp2)
    go_ret
    exact ⟨qw_, qb_ HB.out⟩
   ·replace c29 := Bool.eq_false_iff.mpr c29
    subst c29
    have H1 : (letterboxref15_Same.l0 kj2 0 l0_0 a0_1 l0_2 a0_3 a0_4 a0_5 l1_0 a1_1 l1_2 a1_3 a1_4 a1_5) = some r := by rw [if_neg (show ¬ (false = true) by decide)] at H; exact H
    clear H
    have H := H1
    clear H1
    have H' := Aside0.mk H
    clear H
    go_wp2
    repeat (go_quiet (fail); try go_wp2)
    go_loopg [5] kj2 (fun kq v5 w' => ∃ (x5_2 : Int), v5 = .int .i64 x5_2 ∧ Aside0 (letterboxref15_Same.l0 kq x5_2 l0_0 a0_1 l0_2 a0_3 a0_4 a0_5 l1_0 a1_1 l1_2 a1_3 a1_4 a1_5 = some r) ∧ Aside0 (kq ≤ kj2) ∧ Aside0 (w'.heap[gb209]? = some (.cells #[(.slice A0_0 l0_0.length c0_0), .int .i64 a0_1, (.slice A0_2 l0_2.length c0_2), .bool a0_3, .int .i64 a0_4, .int .i64 a0_5] 30 (0, 0))) ∧ Aside0 (w'.heap[gb210]? = some (.cells #[(.slice A1_0 l1_0.length c1_0), .int .i64 a1_1, (.slice A1_2 l1_2.length c1_2), .bool a1_3, .int .i64 a1_4, .int .i64 a1_5] 30 (0, 0))) ∧ Aside0 (Below w.heap.size w w'))
    case atStart => exact ⟨(0), qr_, H', ⟨Nat.le_refl _⟩, ⟨qk_ BK209.out⟩, ⟨qk_ BK210.out⟩, ⟨qb_ HB.out⟩⟩
    case round =>
     clear H'
     (try clear c29)
     obtain ⟨x5_2, rfl, HA, HK2, BK209, BK210, HB⟩ := hrel
     cases gk with
     | zero => exact absurd HA.out (by simp [letterboxref15_Same.l0])
     | succ k2 =>
      have H := HA.out
      clear HA
      simp only [letterboxref15_Same.l0] at H
      by_cases c30 : x5_2 < (l0_0.length : Int)
      ·rw [if_pos c30] at H
       have c30b0 : decide (x5_2 < (l0_0.length : Int)) = true := decide_eq_true c30
       clear c30
       by_cases c31 : 0 ≤ x5_2
       ·rw [if_pos c31] at H
        have c31b0 : decide (0 ≤ x5_2) = true := decide_eq_true c31
        clear c31
        by_cases c32 : x5_2 < (l1_0.length : Int)
        ·rw [if_pos c32] at H
         have c32b0 : decide (x5_2 < (l1_0.length : Int)) = true := decide_eq_true c32
         clear c32
         by_cases c33 : (rd l0_0 x5_2) = (rd l1_0 x5_2)
         ·rw [if_pos c33] at H
          have c33b0 : ((rd l0_0 x5_2) == (rd l1_0 x5_2)) = true := beq_iff_eq.mpr c33
          have c33b1 : ((rd l0_0 x5_2) != (rd l1_0 x5_2)) = false := bne_eq_false_iff_eq.mpr c33
          clear c33
          have H' := Aside0.mk H
          clear H
          have hnb34 := NB209_210.out
          have hnc34 := NB210_209.out
          obtain ⟨hcz35_0, hcz35_1, hcz35_2, hcz35_3, hcz35_4, hcz35_5, hfz35_0, hfz35_1, hfz35_2, hfz35_3, hfz35_4, hfz35_5⟩ := cz6_ BK209.out
          have p211 : 0 ≤ (x5_2 : Int) := qd_
          have q211 : x5_2 < (l0_0.length : Int) := qd_
          obtain ⟨ad211, e211, hx211_0⟩ := Kd.at_int HR0_0.out x5_2 p211 q211
          cases e211
          replace hx211_0 := (HB.out.cell (World.block_lt_of_cell? w _ hx211_0)).trans hx211_0
          replace p211 := eq_true p211
          replace q211 := eq_true q211
          obtain ⟨hcz36_0, hcz36_1, hcz36_2, hcz36_3, hcz36_4, hcz36_5, hfz36_0, hfz36_1, hfz36_2, hfz36_3, hfz36_4, hfz36_5⟩ := cz6_ BK210.out
          have p212 : 0 ≤ (x5_2 : Int) := qd_
          have q212 : x5_2 < (l1_0.length : Int) := qd_
          obtain ⟨ad212, e212, hx212_0⟩ := Kd.at_int HR1_0.out x5_2 p212 q212
          cases e212
          replace hx212_0 := (HB.out.cell (World.block_lt_of_cell? w _ hx212_0)).trans hx212_0
          replace p212 := eq_true p212
          replace q212 := eq_true q212
          go_wp2
          repeat (go_quiet (fail); try go_wp2)
          go_roundg k2
          case measure => have := HJ2.out; have := HK2.out; omega
          case rel => exact ⟨(wrap64 (x5_2 + 1)), qr_, H', ⟨by have := HJ2.out; have := HK2.out; omega⟩, ⟨qk_ BK209.out⟩, ⟨qk_ BK210.out⟩, ⟨qb_ HB.out⟩⟩
         ·rw [if_neg c33] at H
          have c33b0 : ((rd l0_0 x5_2) == (rd l1_0 x5_2)) = false := beq_eq_false_iff_ne.mpr c33
          have c33b1 : ((rd l0_0 x5_2) != (rd l1_0 x5_2)) = true := bne_iff_ne.mpr c33
          obtain rfl := Option.some.inj H
          have hnb37 := NB209_210.out
          have hnc37 := NB210_209.out
          obtain ⟨hcz38_0, hcz38_1, hcz38_2, hcz38_3, hcz38_4, hcz38_5, hfz38_0, hfz38_1, hfz38_2, hfz38_3, hfz38_4, hfz38_5⟩ := cz6_ BK209.out
          have p211 : 0 ≤ (x5_2 : Int) := qd_
          have q211 : x5_2 < (l0_0.length : Int) := qd_
          obtain ⟨ad211, e211, hx211_0⟩ := Kd.at_int HR0_0.out x5_2 p211 q211
          cases e211
          replace hx211_0 := (HB.out.cell (World.block_lt_of_cell? w _ hx211_0)).trans hx211_0
          replace p211 := eq_true p211
          replace q211 := eq_true q211
          obtain ⟨hcz39_0, hcz39_1, hcz39_2, hcz39_3, hcz39_4, hcz39_5, hfz39_0, hfz39_1, hfz39_2, hfz39_3, hfz39_4, hfz39_5⟩ := cz6_ BK210.out
          have p212 : 0 ≤ (x5_2 : Int) := qd_
          have q212 : x5_2 < (l1_0.length : Int) := qd_
          obtain ⟨ad212, e212, hx212_0⟩ := Kd.at_int HR1_0.out x5_2 p212 q212
          cases e212
          replace hx212_0 := (HB.out.cell (World.block_lt_of_cell? w _ hx212_0)).trans hx212_0
          replace p212 := eq_true p212
          replace q212 := eq_true q212
          go_wp2
          repeat (go_quiet (fail); try go_wp2)
          go_ret
          exact ⟨qw_, qb_ HB.out⟩
        ·rw [if_neg c32] at H
         exact absurd H (by simp)
       ·rw [if_neg c31] at H
        exact absurd H (by simp)
      ·rw [if_neg c30] at H
       have c30b0 : decide (x5_2 < (l0_0.length : Int)) = false := decide_eq_false c30
       clear c30
       have H' := Aside0.mk H
       clear H
       have hnb40 := NB209_210.out
       have hnc40 := NB210_209.out
       obtain ⟨hcz41_0, hcz41_1, hcz41_2, hcz41_3, hcz41_4, hcz41_5, hfz41_0, hfz41_1, hfz41_2, hfz41_3, hfz41_4, hfz41_5⟩ := cz6_ BK209.out
       go_wp2
       repeat (go_quiet (fail); try go_wp2)
       go_loopg [6] k2 (fun kq v6 w' => ∃ (x6_3 : Int), v6 = .int .i64 x6_3 ∧ Aside0 (letterboxref15_Same.l1 kq x6_3 l0_0 a0_1 l0_2 a0_3 a0_4 a0_5 l1_0 a1_1 l1_2 a1_3 a1_4 a1_5 = some r) ∧ Aside0 (kq ≤ k2) ∧ Aside0 (w'.heap[gb209]? = some (.cells #[(.slice A0_0 l0_0.length c0_0), .int .i64 a0_1, (.slice A0_2 l0_2.length c0_2), .bool a0_3, .int .i64 a0_4, .int .i64 a0_5] 30 (0, 0))) ∧ Aside0 (w'.heap[gb210]? = some (.cells #[(.slice A1_0 l1_0.length c1_0), .int .i64 a1_1, (.slice A1_2 l1_2.length c1_2), .bool a1_3, .int .i64 a1_4, .int .i64 a1_5] 30 (0, 0))) ∧ Aside0 (Below w.heap.size w w'))
       case atStart => exact ⟨(0), qr_, H', ⟨Nat.le_refl _⟩, ⟨qk_ BK209.out⟩, ⟨qk_ BK210.out⟩, ⟨qb_ HB.out⟩⟩
       case round =>
        clear H'
        obtain ⟨x6_3, rfl, HA, HK3, BK209, BK210, HB⟩ := hrel
        cases gk with
        | zero => exact absurd HA.out (by simp [letterboxref15_Same.l1])
        | succ k3 =>
         have H := HA.out
         clear HA
         simp only [letterboxref15_Same.l1] at H
         by_cases c42 : x6_3 < (l0_2.length : Int)
         ·rw [if_pos c42] at H
          have c42b0 : decide (x6_3 < (l0_2.length : Int)) = true := decide_eq_true c42
          clear c42
          by_cases c43 : 0 ≤ x6_3
          ·rw [if_pos c43] at H
           have c43b0 : decide (0 ≤ x6_3) = true := decide_eq_true c43
           clear c43
           by_cases c44 : x6_3 < (l1_2.length : Int)
           ·rw [if_pos c44] at H
            have c44b0 : decide (x6_3 < (l1_2.length : Int)) = true := decide_eq_true c44
            clear c44
            by_cases c45 : (rdOf ByteArray.empty l0_2 x6_3).toList = (rdOf ByteArray.empty l1_2 x6_3).toList
            ·rw [if_pos c45] at H
             have c45b0 : ((rdOf ByteArray.empty l0_2 x6_3).toList == (rdOf ByteArray.empty l1_2 x6_3).toList) = true := beq_iff_eq.mpr c45
             have c45b1 : ((rdOf ByteArray.empty l0_2 x6_3).toList != (rdOf ByteArray.empty l1_2 x6_3).toList) = false := bne_eq_false_iff_eq.mpr c45
             clear c45
             have H' := Aside0.mk H
             clear H
             have hnb46 := NB209_210.out
             have hnc46 := NB210_209.out
             obtain ⟨hcz47_0, hcz47_1, hcz47_2, hcz47_3, hcz47_4, hcz47_5, hfz47_0, hfz47_1, hfz47_2, hfz47_3, hfz47_4, hfz47_5⟩ := cz6_ BK209.out
             have p213 : 0 ≤ (x6_3 : Int) := qd_
             have q213 : x6_3 < (l0_2.length : Int) := qd_
             obtain ⟨ad213, e213, hx213_0⟩ := Kd.at_string HR0_2.out x6_3 p213 q213
             cases e213
             replace hx213_0 := (HB.out.cell (World.block_lt_of_cell? w _ hx213_0)).trans hx213_0
             replace p213 := eq_true p213
             replace q213 := eq_true q213
             obtain ⟨hcz48_0, hcz48_1, hcz48_2, hcz48_3, hcz48_4, hcz48_5, hfz48_0, hfz48_1, hfz48_2, hfz48_3, hfz48_4, hfz48_5⟩ := cz6_ BK210.out
             have p214 : 0 ≤ (x6_3 : Int) := qd_
             have q214 : x6_3 < (l1_2.length : Int) := qd_
             obtain ⟨ad214, e214, hx214_0⟩ := Kd.at_string HR1_2.out x6_3 p214 q214
             cases e214
             replace hx214_0 := (HB.out.cell (World.block_lt_of_cell? w _ hx214_0)).trans hx214_0
             replace p214 := eq_true p214
             replace q214 := eq_true q214
             go_wp2
             repeat (go_quiet (fail); try go_wp2)
             go_roundg k3
             case measure => have := HJ2.out; have := HK2.out; have := HK3.out; omega
             case rel => exact ⟨(wrap64 (x6_3 + 1)), qr_, H', ⟨by have := HJ2.out; have := HK2.out; have := HK3.out; omega⟩, ⟨qk_ BK209.out⟩, ⟨qk_ BK210.out⟩, ⟨qb_ HB.out⟩⟩
            ·rw [if_neg c45] at H
             have c45b0 : ((rdOf ByteArray.empty l0_2 x6_3).toList == (rdOf ByteArray.empty l1_2 x6_3).toList) = false := beq_eq_false_iff_ne.mpr c45
             have c45b1 : ((rdOf ByteArray.empty l0_2 x6_3).toList != (rdOf ByteArray.empty l1_2 x6_3).toList) = true := bne_iff_ne.mpr c45
             obtain rfl := Option.some.inj H
             have hnb49 := NB209_210.out
             have hnc49 := NB210_209.out
             obtain ⟨hcz50_0, hcz50_1, hcz50_2, hcz50_3, hcz50_4, hcz50_5, hfz50_0, hfz50_1, hfz50_2, hfz50_3, hfz50_4, hfz50_5⟩ := cz6_ BK209.out
             have p213 : 0 ≤ (x6_3 : Int) := qd_
             have q213 : x6_3 < (l0_2.length : Int) := qd_
             obtain ⟨ad213, e213, hx213_0⟩ := Kd.at_string HR0_2.out x6_3 p213 q213
             cases e213
             replace hx213_0 := (HB.out.cell (World.block_lt_of_cell? w _ hx213_0)).trans hx213_0
             replace p213 := eq_true p213
             replace q213 := eq_true q213
             obtain ⟨hcz51_0, hcz51_1, hcz51_2, hcz51_3, hcz51_4, hcz51_5, hfz51_0, hfz51_1, hfz51_2, hfz51_3, hfz51_4, hfz51_5⟩ := cz6_ BK210.out
             have p214 : 0 ≤ (x6_3 : Int) := qd_
             have q214 : x6_3 < (l1_2.length : Int) := qd_
             obtain ⟨ad214, e214, hx214_0⟩ := Kd.at_string HR1_2.out x6_3 p214 q214
             cases e214
             replace hx214_0 := (HB.out.cell (World.block_lt_of_cell? w _ hx214_0)).trans hx214_0
             replace p214 := eq_true p214
             replace q214 := eq_true q214
             go_wp2
             repeat (go_quiet (fail); try go_wp2)
             go_ret
             exact ⟨qw_, qb_ HB.out⟩
           ·rw [if_neg c44] at H
            exact absurd H (by simp)
          ·rw [if_neg c43] at H
           exact absurd H (by simp)
         ·rw [if_neg c42] at H
          have c42b0 : decide (x6_3 < (l0_2.length : Int)) = false := decide_eq_false c42
          clear c42
          obtain rfl := Option.some.inj H
          have hnb52 := NB209_210.out
          have hnc52 := NB210_209.out
          obtain ⟨hcz53_0, hcz53_1, hcz53_2, hcz53_3, hcz53_4, hcz53_5, hfz53_0, hfz53_1, hfz53_2, hfz53_3, hfz53_4, hfz53_5⟩ := cz6_ BK209.out
          go_wp2
          repeat (go_quiet (fail); try go_wp2)
          go_ret
          exact ⟨qw_, qb_ HB.out⟩

end Go.Proofs.YtbjbagocnnffaaaDoor.P
