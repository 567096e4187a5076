-- Written by a program of this session (wip/tools/mk.sh) for this claim: it runs the kit's print with contracts of our own. Lean checks it.
import Derived.Test.YtbjbagocnnffaaaDoorPx0
import Derived.Test.YtbjbagocnnffaaaDoorWRepsOne
import Derived.Test.YtbjbagocnnffaaaDoorWGuard
import Derived.Test.YtbjbagocnnffaaaDoorWTab
import Derived.Test.YtbjbagocnnffaaaDoorZStr
import Derived.Test.YtbjbagocnnffaaaDoorPx2
import Derived.Test.YtbjbagocnnffaaaDoorPx6
import Derived.Test.YtbjbagocnnffaaaDoorPx8
import Derived.Test.YtbjbagocnnffaaaDoorPx9
import Derived.Test.YtbjbagocnnffaaaDoorPx10
import Derived.Test.YtbjbagocnnffaaaDoorPx11
import Derived.Test.YtbjbagocnnffaaaDoorPx12
import Derived.Test.YtbjbagocnnffaaaDoorPx14
namespace Go.Proofs.YtbjbagocnnffaaaDoor.P
open Go.RowKit Go.Proofs.YtbjbagocnnffaaaDoorW.PrintWords Go.Proofs.YtbjbagocnnffaaaDoorW.PrintLast Go.Proofs.YtbjbagocnnffaaaDoorW.PrintMore
attribute [-simp] Int.tmod_tmod_of_dvd
attribute [local go_sem] max2_int min2_int max_two min_two max_three min_three max_four min_four   -- for this text's walks alone
set_option linter.unusedVariables false
set_option linter.unusedSimpArgs false

/-! ### letterboxlaw15_SectionPuts: function 4 -/
mutual
def letterboxlaw15_SectionPuts.l0 : Nat → Int → Int → List Int → Int → List ByteArray → Bool → Int → Int → Option (Bool)
 | 0, _, _, _, _, _, _, _, _ => none
 | k + 1, x4, x5, x247000, x247001, x247002, x247003, x247004, x247005 => if x5 < (x247002.length : Int) then (if 0 ≤ x5 then (letterboxlaw15_SectionPuts.l0 k (wrap64 (x4 + ((rdOf ByteArray.empty x247002 x5).size : Int))) (wrap64 (x5 + 1)) x247000 x247001 x247002 x247003 x247004 x247005) else (none)) else (if (x247000.length : Int) > 80 then (letterboxlaw15_SectionPuts.j1 k true x247000 x247001 x247002 x247003 x247004 x247005) else (if (x247002.length : Int) > 110 then (letterboxlaw15_SectionPuts.j1 k true x247000 x247001 x247002 x247003 x247004 x247005) else (letterboxlaw15_SectionPuts.j1 k (decide (x4 > 400)) x247000 x247001 x247002 x247003 x247004 x247005)))
def letterboxlaw15_SectionPuts.j1 : Nat → Bool → List Int → Int → List ByteArray → Bool → Int → Int → Option (Bool)
 | 0, _, _, _, _, _, _, _ => none
 | k + 1, x40, x247000, x247001, x247002, x247003, x247004, x247005 => if x40 = true then (some true) else ((letterboxlaw15_specOf.f x247000 x247001 x247002 x247003 x247004 x247005).bind fun bt249 => ((section_Check.f k x247000 x247001 x247002 x247003 x247004 x247005).bind fun t260 => ((letterboxref15_Check.f k bt249.1 bt249.2.1 bt249.2.2.1 bt249.2.2.2.1 bt249.2.2.2.2.1 bt249.2.2.2.2.2).bind fun t261 => (if t260 = t261 then ((section_Put.f k x247000 x247001 x247002 x247003 x247004 x247005 false).bind fun t262 => ((letterboxref15_Put.f k bt249.1 bt249.2.1 bt249.2.2.1 bt249.2.2.2.1 bt249.2.2.2.2.1 bt249.2.2.2.2.2 false).bind fun t263 => (if t262.toList = t263.toList then ((section_Put.f k x247000 x247001 x247002 x247003 x247004 x247005 true).bind fun t264 => ((letterboxref15_Put.f k bt249.1 bt249.2.1 bt249.2.2.1 bt249.2.2.2.1 bt249.2.2.2.2.1 bt249.2.2.2.2.2 true).bind fun t265 => (letterboxlaw15_SectionPuts.j2 k (t264.toList != t265.toList) x247000 x247001 x247002 x247003 x247004 x247005 bt249.1 bt249.2.1 bt249.2.2.1 bt249.2.2.2.1 bt249.2.2.2.2.1 bt249.2.2.2.2.2))) else (letterboxlaw15_SectionPuts.j2 k true x247000 x247001 x247002 x247003 x247004 x247005 bt249.1 bt249.2.1 bt249.2.2.1 bt249.2.2.2.1 bt249.2.2.2.2.1 bt249.2.2.2.2.2)))) else (letterboxlaw15_SectionPuts.j2 k true x247000 x247001 x247002 x247003 x247004 x247005 bt249.1 bt249.2.1 bt249.2.2.1 bt249.2.2.2.1 bt249.2.2.2.2.1 bt249.2.2.2.2.2)))))
def letterboxlaw15_SectionPuts.j2 : Nat → Bool → List Int → Int → List ByteArray → Bool → Int → Int → List Int → Int → List ByteArray → Bool → Int → Int → Option (Bool)
 | 0, _, _, _, _, _, _, _, _, _, _, _, _, _ => none
 | k + 1, x61, x247000, x247001, x247002, x247003, x247004, x247005, x260000, x260001, x260002, x260003, x260004, x260005 => if x61 = true then (some false) else ((section_Put.f k x247000 x247001 x247002 x247003 x247004 x247005 false).bind fun t266 => ((section_Parse.f k t266).bind fun bt267 => ((section_Check.f k x247000 x247001 x247002 x247003 x247004 x247005).bind fun t279 => (if t279 = 0 then (if bt267.2.2.2.2.2.2 = 0 then ((letterboxlaw15_specOf.f bt267.1 bt267.2.1 bt267.2.2.1 bt267.2.2.2.1 bt267.2.2.2.2.1 bt267.2.2.2.2.2.1).bind fun bt280 => ((letterboxref15_Same.f k bt280.1 bt280.2.1 bt280.2.2.1 bt280.2.2.2.1 bt280.2.2.2.2.1 bt280.2.2.2.2.2 x260000 x260001 x260002 x260003 x260004 x260005).bind fun t290 => (some t290))) else (some false)) else (some (bt267.2.2.2.2.2.2 == 50))))))
end
def letterboxlaw15_SectionPuts.f (k : Nat) (l0_0 : List Int) (a0_1 : Int) (l0_2 : List ByteArray) (a0_3 : Bool) (a0_4 : Int) (a0_5 : Int) : Option (Bool) := (letterboxlaw15_awake.f k).bind fun t247 => (if t247 = true then (letterboxlaw15_SectionPuts.l0 k 0 0 l0_0 a0_1 l0_2 a0_3 a0_4 a0_5) else (some false))
theorem letterboxlaw15_SectionPuts.mono_l : ∀ k, (∀ y0 y1 y2 y3 y4 y5 y6 y7, LeO (letterboxlaw15_SectionPuts.l0 k y0 y1 y2 y3 y4 y5 y6 y7) (letterboxlaw15_SectionPuts.l0 (k + 1) y0 y1 y2 y3 y4 y5 y6 y7)) ∧ (∀ y0 y1 y2 y3 y4 y5 y6, LeO (letterboxlaw15_SectionPuts.j1 k y0 y1 y2 y3 y4 y5 y6) (letterboxlaw15_SectionPuts.j1 (k + 1) y0 y1 y2 y3 y4 y5 y6)) ∧ (∀ y0 y1 y2 y3 y4 y5 y6 y7 y8 y9 y10 y11 y12, LeO (letterboxlaw15_SectionPuts.j2 k y0 y1 y2 y3 y4 y5 y6 y7 y8 y9 y10 y11 y12) (letterboxlaw15_SectionPuts.j2 (k + 1) y0 y1 y2 y3 y4 y5 y6 y7 y8 y9 y10 y11 y12))
 | 0 => ⟨fun _ _ _ _ _ _ _ _ r h => by simp [letterboxlaw15_SectionPuts.l0] at h, fun _ _ _ _ _ _ _ r h => by simp [letterboxlaw15_SectionPuts.j1] at h, fun _ _ _ _ _ _ _ _ _ _ _ _ _ r h => by simp [letterboxlaw15_SectionPuts.j2] at h⟩
 | k + 1 => by
  obtain ⟨ih0, ih1, ih2⟩ := letterboxlaw15_SectionPuts.mono_l k
  refine ⟨?_, ?_, ?_⟩
  ·intro y0 y1 y2 y3 y4 y5 y6 y7
   unfold letterboxlaw15_SectionPuts.l0
   repeat' first
   | (with_reducible exact ih0 _ _ _ _ _ _ _ _)
   | (with_reducible exact ih1 _ _ _ _ _ _ _)
   | (with_reducible exact ih2 _ _ _ _ _ _ _ _ _ _ _ _ _)
   | (with_reducible exact letterboxlaw15_awake.mono _)
   | (with_reducible exact letterboxref15_Check.mono _ _ _ _ _ _ _)
   | (with_reducible exact letterboxref15_Put.mono _ _ _ _ _ _ _ _)
   | (with_reducible exact letterboxref15_Same.mono _ _ _ _ _ _ _ _ _ _ _ _ _)
   | (with_reducible exact section_Check.mono _ _ _ _ _ _ _)
   | (with_reducible exact section_Parse.mono _ _)
   | (with_reducible exact section_Put.mono _ _ _ _ _ _ _ _)
   | (with_reducible exact LeO.refl _)
   | (with_reducible exact LeO.none _)
   | (with_reducible refine LeO.ite ?_ ?_)
   | (with_reducible refine LeO.bind ?_ (fun _ => ?_))
   | exact ih0 _ _ _ _ _ _ _ _
   | exact ih1 _ _ _ _ _ _ _
   | exact ih2 _ _ _ _ _ _ _ _ _ _ _ _ _
   | exact letterboxlaw15_awake.mono _
   | exact letterboxref15_Check.mono _ _ _ _ _ _ _
   | exact letterboxref15_Put.mono _ _ _ _ _ _ _ _
   | exact letterboxref15_Same.mono _ _ _ _ _ _ _ _ _ _ _ _ _
   | exact section_Check.mono _ _ _ _ _ _ _
   | exact section_Parse.mono _ _
   | exact section_Put.mono _ _ _ _ _ _ _ _
   | exact LeO.none _
   | refine LeO.ite ?_ ?_
   | refine LeO.bind ?_ (fun _ => ?_)
  ·intro y0 y1 y2 y3 y4 y5 y6
   unfold letterboxlaw15_SectionPuts.j1
   repeat' first
   | (with_reducible exact ih0 _ _ _ _ _ _ _ _)
   | (with_reducible exact ih1 _ _ _ _ _ _ _)
   | (with_reducible exact ih2 _ _ _ _ _ _ _ _ _ _ _ _ _)
   | (with_reducible exact letterboxlaw15_awake.mono _)
   | (with_reducible exact letterboxref15_Check.mono _ _ _ _ _ _ _)
   | (with_reducible exact letterboxref15_Put.mono _ _ _ _ _ _ _ _)
   | (with_reducible exact letterboxref15_Same.mono _ _ _ _ _ _ _ _ _ _ _ _ _)
   | (with_reducible exact section_Check.mono _ _ _ _ _ _ _)
   | (with_reducible exact section_Parse.mono _ _)
   | (with_reducible exact section_Put.mono _ _ _ _ _ _ _ _)
   | (with_reducible exact LeO.refl _)
   | (with_reducible exact LeO.none _)
   | (with_reducible refine LeO.ite ?_ ?_)
   | (with_reducible refine LeO.bind ?_ (fun _ => ?_))
   | exact ih0 _ _ _ _ _ _ _ _
   | exact ih1 _ _ _ _ _ _ _
   | exact ih2 _ _ _ _ _ _ _ _ _ _ _ _ _
   | exact letterboxlaw15_awake.mono _
   | exact letterboxref15_Check.mono _ _ _ _ _ _ _
   | exact letterboxref15_Put.mono _ _ _ _ _ _ _ _
   | exact letterboxref15_Same.mono _ _ _ _ _ _ _ _ _ _ _ _ _
   | exact section_Check.mono _ _ _ _ _ _ _
   | exact section_Parse.mono _ _
   | exact section_Put.mono _ _ _ _ _ _ _ _
   | exact LeO.none _
   | refine LeO.ite ?_ ?_
   | refine LeO.bind ?_ (fun _ => ?_)
  ·intro y0 y1 y2 y3 y4 y5 y6 y7 y8 y9 y10 y11 y12
   unfold letterboxlaw15_SectionPuts.j2
   repeat' first
   | (with_reducible exact ih0 _ _ _ _ _ _ _ _)
   | (with_reducible exact ih1 _ _ _ _ _ _ _)
   | (with_reducible exact ih2 _ _ _ _ _ _ _ _ _ _ _ _ _)
   | (with_reducible exact letterboxlaw15_awake.mono _)
   | (with_reducible exact letterboxref15_Check.mono _ _ _ _ _ _ _)
   | (with_reducible exact letterboxref15_Put.mono _ _ _ _ _ _ _ _)
   | (with_reducible exact letterboxref15_Same.mono _ _ _ _ _ _ _ _ _ _ _ _ _)
   | (with_reducible exact section_Check.mono _ _ _ _ _ _ _)
   | (with_reducible exact section_Parse.mono _ _)
   | (with_reducible exact section_Put.mono _ _ _ _ _ _ _ _)
   | (with_reducible exact LeO.refl _)
   | (with_reducible exact LeO.none _)
   | (with_reducible refine LeO.ite ?_ ?_)
   | (with_reducible refine LeO.bind ?_ (fun _ => ?_))
   | exact ih0 _ _ _ _ _ _ _ _
   | exact ih1 _ _ _ _ _ _ _
   | exact ih2 _ _ _ _ _ _ _ _ _ _ _ _ _
   | exact letterboxlaw15_awake.mono _
   | exact letterboxref15_Check.mono _ _ _ _ _ _ _
   | exact letterboxref15_Put.mono _ _ _ _ _ _ _ _
   | exact letterboxref15_Same.mono _ _ _ _ _ _ _ _ _ _ _ _ _
   | exact section_Check.mono _ _ _ _ _ _ _
   | exact section_Parse.mono _ _
   | exact section_Put.mono _ _ _ _ _ _ _ _
   | exact LeO.none _
   | refine LeO.ite ?_ ?_
   | refine LeO.bind ?_ (fun _ => ?_)
theorem letterboxlaw15_SectionPuts.mono : ∀ a0 a1 a2 a3 a4 a5 k, LeO (letterboxlaw15_SectionPuts.f k a0 a1 a2 a3 a4 a5) (letterboxlaw15_SectionPuts.f (k + 1) a0 a1 a2 a3 a4 a5) := by
 intro a0 a1 a2 a3 a4 a5 k
 obtain ⟨ih0, ih1, ih2⟩ := letterboxlaw15_SectionPuts.mono_l k
 unfold letterboxlaw15_SectionPuts.f
 repeat' first
   | (with_reducible exact ih0 _ _ _ _ _ _ _ _)
   | (with_reducible exact ih1 _ _ _ _ _ _ _)
   | (with_reducible exact ih2 _ _ _ _ _ _ _ _ _ _ _ _ _)
   | (with_reducible exact letterboxlaw15_awake.mono _)
   | (with_reducible exact letterboxref15_Check.mono _ _ _ _ _ _ _)
   | (with_reducible exact letterboxref15_Put.mono _ _ _ _ _ _ _ _)
   | (with_reducible exact letterboxref15_Same.mono _ _ _ _ _ _ _ _ _ _ _ _ _)
   | (with_reducible exact section_Check.mono _ _ _ _ _ _ _)
   | (with_reducible exact section_Parse.mono _ _)
   | (with_reducible exact section_Put.mono _ _ _ _ _ _ _ _)
   | (with_reducible exact LeO.refl _)
   | (with_reducible exact LeO.none _)
   | (with_reducible refine LeO.ite ?_ ?_)
   | (with_reducible refine LeO.bind ?_ (fun _ => ?_))
   | exact ih0 _ _ _ _ _ _ _ _
   | exact ih1 _ _ _ _ _ _ _
   | exact ih2 _ _ _ _ _ _ _ _ _ _ _ _ _
   | exact letterboxlaw15_awake.mono _
   | exact letterboxref15_Check.mono _ _ _ _ _ _ _
   | exact letterboxref15_Put.mono _ _ _ _ _ _ _ _
   | exact letterboxref15_Same.mono _ _ _ _ _ _ _ _ _ _ _ _ _
   | exact section_Check.mono _ _ _ _ _ _ _
   | exact section_Parse.mono _ _
   | exact section_Put.mono _ _ _ _ _ _ _ _
   | exact LeO.none _
   | refine LeO.ite ?_ ?_
   | refine LeO.bind ?_ (fun _ => ?_)
def letterboxlaw15_SectionPuts.T12 : Bool × List (List Nat × List Nat) := (true, [([], []), ([0], [0]), ([], []), ([2, 1], [2]), ([1, 3], [1, 3]), ([4, 3], [4]), ([5], [5]), ([6, 5, 5], [5, 6]), ([5], [5]), ([8, 7, 5], [5, 8]), ([7, 9, 5], [5, 7, 9]), ([5, 10], [5, 10]), ([11, 9], [11]), ([12], [12]), ([13, 12, 12], [12, 13]), ([12], [12]), ([15, 14, 12], [12, 15]), ([14, 16, 12], [12, 14, 16]), ([12, 17], [12, 17])])
def letterboxlaw15_SectionPuts.B12 : List Nat := [0, 1, 0, 7, 15, 31, 63, 127, 63, 511, 1023, 2047, 4095, 8191, 16383, 8191, 65535, 131071, 262143]
theorem letterboxlaw15_SectionPuts.tab12 : rtab .any (opsOf Tryd.f4 12) = letterboxlaw15_SectionPuts.T12 := by kernel_rfl
theorem letterboxlaw15_SectionPuts.bits12 : waitsOk letterboxlaw15_SectionPuts.T12.2 letterboxlaw15_SectionPuts.B12 = true := by kernel_rfl
def letterboxlaw15_SectionPuts.T17 : Bool × List (List Nat × List Nat) := (true, [([], []), ([0], [0]), ([1], [1]), ([2], [2]), ([3, 2, 2], [2, 3]), ([2], [2]), ([4, 5, 4, 2], [2, 4, 5]), ([2, 6], [2, 6]), ([7, 6, 0, 1, 2, 3, 4, 5, 6, 7], [7])])
def letterboxlaw15_SectionPuts.B17 : List Nat := [0, 1, 3, 7, 15, 7, 63, 127, 255]
theorem letterboxlaw15_SectionPuts.tab17 : rtab .any (opsOf Tryd.f4 17) = letterboxlaw15_SectionPuts.T17 := by kernel_rfl
theorem letterboxlaw15_SectionPuts.bits17 : waitsOk letterboxlaw15_SectionPuts.T17.2 letterboxlaw15_SectionPuts.B17 = true := by kernel_rfl
set_option maxHeartbeats 8000000 in
set_option maxRecDepth 100000 in
theorem letterboxlaw15_SectionPuts.calls (k : Nat) (A0_0 : Option Addr) (c0_0 : Nat) (l0_0 : List Int) (a0_1 : Int) (A0_2 : Option Addr) (c0_2 : Nat) (l0_2 : List ByteArray) (a0_3 : Bool) (a0_4 : Int) (a0_5 : Int) (r : Bool) (w : World) (hr0_0 : Kd.C (Kd.int .i64) w A0_0 l0_0.length l0_0) (hc0_0 : l0_0.length ≤ c0_0) (hr0_2 : Kd.C Kd.string w A0_2 l0_2.length l0_2) (hc0_2 : l0_2.length ≤ c0_2) (h : letterboxlaw15_SectionPuts.f k l0_0 a0_1 l0_2 a0_3 a0_4 a0_5 = some r) (hL0 : sec_Words w := by first | exact hL0 | exact sec_Words.below hL0 (by repeat (first | (with_reducible first | exact HB.out | apply below_alloc | apply pw_below_drewN | apply below_drew1 | refine below_set ?_ (Aside0.out (by assumption))) | exact HB.out))) :
  Calls Tryd.prog 4 #[.agg #[.slice A0_0 l0_0.length c0_0, .int .i64 a0_1, .slice A0_2 l0_2.length c0_2, .bool a0_3, .int .i64 a0_4, .int .i64 a0_5]] w fun e w' => e = .returned (.bool r) ∧ Below w.heap.size w w' := by
 have hu26 := Tryd.underlying26
 have hu30 := Tryd.underlying30
 have HR0_0 := Aside0.mk hr0_0
 have HC0_0 := Aside0.mk hc0_0
 clear hr0_0 hc0_0
 have HR0_2 := Aside0.mk hr0_2
 have HC0_2 := Aside0.mk hc0_2
 clear hr0_2 hc0_2
 have HB := Aside0.mk (Below.refl w.heap.size w)
 have H : ((letterboxlaw15_awake.f k).bind fun t247 => (if t247 = true then (letterboxlaw15_SectionPuts.l0 k 0 0 l0_0 a0_1 l0_2 a0_3 a0_4 a0_5) else (some false))) = some r := h
 clear h
 replace H := Option.bind_eq_some_iff.mp H
 obtain ⟨t247, A20, H⟩ := H
 replace H : (if t247 = true then (letterboxlaw15_SectionPuts.l0 k 0 0 l0_0 a0_1 l0_2 a0_3 a0_4 a0_5) else (some false)) = some r := H
 have A2 := Aside0.mk A20
 clear A20
 by_cases c3 : t247 = true
 ·subst c3
  have H1 : (letterboxlaw15_SectionPuts.l0 k 0 0 l0_0 a0_1 l0_2 a0_3 a0_4 a0_5) = some r := by rw [if_pos rfl] at H; exact H
  clear H
  have H := H1
  clear H1
  have H' := Aside0.mk H
  clear H
  go_enter Tryd.func4, Tryd.ntmps4
  go_wp2_with (first | ((with_reducible refine gate_dst (N := 1) rfl ?_); (try (refine gate_guard (by rfl) ?_; dsimp only)); refine box_event ?hg (N := 1) ?hd (cs := #[.slice A0_0 l0_0.length c0_0, .int .i64 a0_1, .slice A0_2 l0_2.length c0_2, .bool a0_3, .int .i64 a0_4, .int .i64 a0_5]) (t := 26) ?hr ?_; (case hd => rfl); (case hg => rfl); (case hr => first | (go_simp; done) | (go_simp; rfl)); intro gb246 hg w4 hbox hb; have n0_ := Aside0.mk (below_step (qb_ HB.out) hb); have n1_ := Aside0.mk (hbox); have n2_ := Aside0.mk ((by rw [hg]; exact (below_size (qb_ HB.out)) : w.heap.size ≤ gb246)); have n3_ := Aside0.mk ((by rw [hg]; exact (below_size (qb_ HB.out)) : w.heap.size ≤ gb246)); clear HB; have HB := n0_; have BK246 := n1_; have GW246 := n2_; have GE246 := n3_; clear n0_ n1_ n2_ n3_; clear hb hbox hg) | ((with_reducible refine gate_callee (f := 7) rfl ?_); refine goesL_ (some 9) rfl rfl Tryd.func7 (by kernel_rfl) rfl #[] rfl qa_ ?_; (with_reducible refine (letterboxlaw15_awake.calls k  true _ A2.out).mono ?_); rintro e w5 ⟨rfl, hb⟩; refine ⟨_, rfl, ?_⟩; have n0_ := Aside0.mk (blk_below (g := gb246) (o := .cells #[.slice A0_0 l0_0.length c0_0, .int .i64 a0_1, .slice A0_2 l0_2.length c0_2, .bool a0_3, .int .i64 a0_4, .int .i64 a0_5] 26 (0, 0)) (qk_ BK246.out) hb); have n1_ := Aside0.mk (below_step (qb_ HB.out) hb); clear BK246; clear HB; have BK246 := n0_; have HB := n1_; clear n0_ n1_; (try clear hb); (try clear hb2); (try clear hk); (try clear hi)))
  go_loopg [4, 5] k (fun kq v4 v5 w' => ∃ (x4_1 : Int) (x5_1 : Int), v4 = .int .i64 x4_1 ∧ v5 = .int .i64 x5_1 ∧ Aside0 (letterboxlaw15_SectionPuts.l0 kq x4_1 x5_1 l0_0 a0_1 l0_2 a0_3 a0_4 a0_5 = some r) ∧ Aside0 (kq ≤ k) ∧ Aside0 (w'.heap[gb246]? = some (.cells #[(.slice A0_0 l0_0.length c0_0), .int .i64 a0_1, (.slice A0_2 l0_2.length c0_2), .bool a0_3, .int .i64 a0_4, .int .i64 a0_5] 26 (0, 0))) ∧ Aside0 (Below w.heap.size w w'))
  case atStart => exact ⟨(0), (0), qr_, qr_, H', ⟨Nat.le_refl _⟩, ⟨qk_ BK246.out⟩, ⟨qb_ HB.out⟩⟩
  case round =>
   clear H'
   (try clear c3)
   obtain ⟨x4_1, x5_1, rfl, rfl, HA, HK1, BK246, HB⟩ := hrel
   cases gk with
   | zero => exact absurd HA.out (by simp [letterboxlaw15_SectionPuts.l0])
   | succ k1 =>
    have H := HA.out
    clear HA
    simp only [letterboxlaw15_SectionPuts.l0] at H
    by_cases c6 : x5_1 < (l0_2.length : Int)
    ·rw [if_pos c6] at H
     have c6b0 : decide (x5_1 < (l0_2.length : Int)) = true := decide_eq_true c6
     clear c6
     by_cases c7 : 0 ≤ x5_1
     ·rw [if_pos c7] at H
      have c7b0 : decide (0 ≤ x5_1) = true := decide_eq_true c7
      clear c7
      have H' := Aside0.mk H
      clear H
      obtain ⟨hcz8_0, hcz8_1, hcz8_2, hcz8_3, hcz8_4, hcz8_5, hfz8_0, hfz8_1, hfz8_2, hfz8_3, hfz8_4, hfz8_5⟩ := cz6_ BK246.out
      have p248 : 0 ≤ (x5_1 : Int) := qd_
      have q248 : x5_1 < (l0_2.length : Int) := qd_
      obtain ⟨ad248, e248, hx248_0⟩ := Kd.at_string HR0_2.out x5_1 p248 q248
      cases e248
      replace hx248_0 := (HB.out.cell (World.block_lt_of_cell? w _ hx248_0)).trans hx248_0
      replace p248 := eq_true p248
      replace q248 := eq_true q248
      go_wp2
      go_roundg k1
      case measure => have := HK1.out; omega
      case rel => exact ⟨(wrap64 (x4_1 + ((rdOf ByteArray.empty l0_2 x5_1).size : Int))), (wrap64 (x5_1 + 1)), qr_, qr_, H', ⟨by have := HK1.out; omega⟩, ⟨qk_ BK246.out⟩, ⟨qb_ HB.out⟩⟩
     ·rw [if_neg c7] at H
      exact absurd H (by simp)
    ·rw [if_neg c6] at H
     have c6b0 : decide (x5_1 < (l0_2.length : Int)) = false := decide_eq_false c6
     clear c6
     have HC9 := Aside0.mk H
     clear H
     obtain ⟨hcz10_0, hcz10_1, hcz10_2, hcz10_3, hcz10_4, hcz10_5, hfz10_0, hfz10_1, hfz10_2, hfz10_3, hfz10_4, hfz10_5⟩ := cz6_ BK246.out
     go_upto_region 9 with (fail)
     go_cut [40] (fun v40 wc => ∃ (kq : Nat) (x40_8 : Bool), v40 = .bool x40_8 ∧ Aside0 (letterboxlaw15_SectionPuts.j1 kq x40_8 l0_0 a0_1 l0_2 a0_3 a0_4 a0_5 = some r) ∧ Aside0 (kq ≤ k1) ∧ Aside0 (wc.heap[gb246]? = some (.cells #[(.slice A0_0 l0_0.length c0_0), .int .i64 a0_1, (.slice A0_2 l0_2.length c0_2), .bool a0_3, .int .i64 a0_4, .int .i64 a0_5] 26 (0, 0))) ∧ Aside0 (Below w.heap.size w wc))
     case first =>
      have H := HC9.out
      clear HC9
      by_cases c11 : (l0_0.length : Int) > 80
      ·rw [if_pos c11] at H
       have c11b0 : decide (80 < (l0_0.length : Int)) = true := decide_eq_true c11
       have c11b1 : decide (80 < l0_0.length) = true := decide_eq_true (by omega)
       clear c11
       (first | rw [c11b0] | (simp only [i64_w, i32_w]; rw [c11b0]) | skip)
       have H' := Aside0.mk H
       clear H
       obtain ⟨hcz12_0, hcz12_1, hcz12_2, hcz12_3, hcz12_4, hcz12_5, hfz12_0, hfz12_1, hfz12_2, hfz12_3, hfz12_4, hfz12_5⟩ := cz6_ BK246.out
       go_wp2
       go_meet
       case rel => exact ⟨_, (true), qr_, H', ⟨by have := HK1.out; first | omega | exact Nat.le_refl _⟩, ⟨qk_ BK246.out⟩, ⟨qb_ HB.out⟩⟩
      ·rw [if_neg c11] at H
       have c11b0 : decide (80 < (l0_0.length : Int)) = false := decide_eq_false c11
       have c11b1 : decide (80 < l0_0.length) = false := decide_eq_false (by omega)
       clear c11
       (first | rw [c11b0] | (simp only [i64_w, i32_w]; rw [c11b0]) | skip)
       by_cases c13 : (l0_2.length : Int) > 110
       ·rw [if_pos c13] at H
        have c13b0 : decide (110 < (l0_2.length : Int)) = true := decide_eq_true c13
        have c13b1 : decide (110 < l0_2.length) = true := decide_eq_true (by omega)
        clear c13
        have H' := Aside0.mk H
        clear H
        obtain ⟨hcz14_0, hcz14_1, hcz14_2, hcz14_3, hcz14_4, hcz14_5, hfz14_0, hfz14_1, hfz14_2, hfz14_3, hfz14_4, hfz14_5⟩ := cz6_ BK246.out
        go_wp2
        go_meet
        case rel => exact ⟨_, (true), qr_, H', ⟨by have := HK1.out; first | omega | exact Nat.le_refl _⟩, ⟨qk_ BK246.out⟩, ⟨qb_ HB.out⟩⟩
       ·rw [if_neg c13] at H
        have c13b0 : decide (110 < (l0_2.length : Int)) = false := decide_eq_false c13
        have c13b1 : decide (110 < l0_2.length) = false := decide_eq_false (by omega)
        clear c13
        have H' := Aside0.mk H
        clear H
        obtain ⟨hcz15_0, hcz15_1, hcz15_2, hcz15_3, hcz15_4, hcz15_5, hfz15_0, hfz15_1, hfz15_2, hfz15_3, hfz15_4, hfz15_5⟩ := cz6_ BK246.out
        go_wp2
        go_meet
        case rel => exact ⟨_, (decide (x4_1 > 400)), qr_, H', ⟨by have := HK1.out; first | omega | exact Nat.le_refl _⟩, ⟨qk_ BK246.out⟩, ⟨qb_ HB.out⟩⟩
     case rest =>
      clear HC9
      obtain ⟨kq, x40_8, rfl, HA, HJ8, BK246, HB⟩ := hcut
      cases kq with
      | zero => exact absurd HA.out (by simp [letterboxlaw15_SectionPuts.j1])
      | succ kj8 =>
       have H := HA.out
       clear HA
       simp only [letterboxlaw15_SectionPuts.j1] at H
       by_cases c16 : x40_8 = true
       ·subst c16
        have H1 : (some true) = some r := by rw [if_pos rfl] at H; exact H
        clear H
        have H := H1
        clear H1
        obtain rfl := Option.some.inj H
        go_wp2
        go_ret
        exact ⟨qw_, qb_ HB.out⟩
       ·replace c16 := Bool.eq_false_iff.mpr c16
        subst c16
        have H1 : ((letterboxlaw15_specOf.f l0_0 a0_1 l0_2 a0_3 a0_4 a0_5).bind fun bt249 => ((section_Check.f kj8 l0_0 a0_1 l0_2 a0_3 a0_4 a0_5).bind fun t260 => ((letterboxref15_Check.f kj8 bt249.1 bt249.2.1 bt249.2.2.1 bt249.2.2.2.1 bt249.2.2.2.2.1 bt249.2.2.2.2.2).bind fun t261 => (if t260 = t261 then ((section_Put.f kj8 l0_0 a0_1 l0_2 a0_3 a0_4 a0_5 false).bind fun t262 => ((letterboxref15_Put.f kj8 bt249.1 bt249.2.1 bt249.2.2.1 bt249.2.2.2.1 bt249.2.2.2.2.1 bt249.2.2.2.2.2 false).bind fun t263 => (if t262.toList = t263.toList then ((section_Put.f kj8 l0_0 a0_1 l0_2 a0_3 a0_4 a0_5 true).bind fun t264 => ((letterboxref15_Put.f kj8 bt249.1 bt249.2.1 bt249.2.2.1 bt249.2.2.2.1 bt249.2.2.2.2.1 bt249.2.2.2.2.2 true).bind fun t265 => (letterboxlaw15_SectionPuts.j2 kj8 (t264.toList != t265.toList) l0_0 a0_1 l0_2 a0_3 a0_4 a0_5 bt249.1 bt249.2.1 bt249.2.2.1 bt249.2.2.2.1 bt249.2.2.2.2.1 bt249.2.2.2.2.2))) else (letterboxlaw15_SectionPuts.j2 kj8 true l0_0 a0_1 l0_2 a0_3 a0_4 a0_5 bt249.1 bt249.2.1 bt249.2.2.1 bt249.2.2.2.1 bt249.2.2.2.2.1 bt249.2.2.2.2.2)))) else (letterboxlaw15_SectionPuts.j2 kj8 true l0_0 a0_1 l0_2 a0_3 a0_4 a0_5 bt249.1 bt249.2.1 bt249.2.2.1 bt249.2.2.2.1 bt249.2.2.2.2.1 bt249.2.2.2.2.2))))) = some r := by rw [if_neg (show ¬ (false = true) by decide)] at H; exact H
        clear H
        have H := H1
        clear H1
        replace H := Option.bind_eq_some_iff.mp H
        obtain ⟨⟨t249, t252, t253, t256, t257, t258⟩, A170, H⟩ := H
        replace H : ((section_Check.f kj8 l0_0 a0_1 l0_2 a0_3 a0_4 a0_5).bind fun t260 => ((letterboxref15_Check.f kj8 t249 t252 t253 t256 t257 t258).bind fun t261 => (if t260 = t261 then ((section_Put.f kj8 l0_0 a0_1 l0_2 a0_3 a0_4 a0_5 false).bind fun t262 => ((letterboxref15_Put.f kj8 t249 t252 t253 t256 t257 t258 false).bind fun t263 => (if t262.toList = t263.toList then ((section_Put.f kj8 l0_0 a0_1 l0_2 a0_3 a0_4 a0_5 true).bind fun t264 => ((letterboxref15_Put.f kj8 t249 t252 t253 t256 t257 t258 true).bind fun t265 => (letterboxlaw15_SectionPuts.j2 kj8 (t264.toList != t265.toList) l0_0 a0_1 l0_2 a0_3 a0_4 a0_5 t249 t252 t253 t256 t257 t258))) else (letterboxlaw15_SectionPuts.j2 kj8 true l0_0 a0_1 l0_2 a0_3 a0_4 a0_5 t249 t252 t253 t256 t257 t258)))) else (letterboxlaw15_SectionPuts.j2 kj8 true l0_0 a0_1 l0_2 a0_3 a0_4 a0_5 t249 t252 t253 t256 t257 t258)))) = some r := H
        have A17 := Aside0.mk A170
        clear A170
        have HC18 := Aside0.mk H
        clear H
        obtain ⟨hcz19_0, hcz19_1, hcz19_2, hcz19_3, hcz19_4, hcz19_5, hfz19_0, hfz19_1, hfz19_2, hfz19_3, hfz19_4, hfz19_5⟩ := cz6_ BK246.out
        go_upto_region 12 with (first | ((with_reducible refine gate_callee (f := 11) rfl ?_); refine goesL_ (some 42) rfl rfl Tryd.func11 (by kernel_rfl) rfl #[.agg #[.slice A0_0 l0_0.length c0_0, .int .i64 a0_1, .slice A0_2 l0_2.length c0_2, .bool a0_3, .int .i64 a0_4, .int .i64 a0_5]] rfl qa_ ?_; (with_reducible refine (letterboxlaw15_specOf.calls (fun k_ => k_ < w.heap.size) _ _ l0_0 a0_1 (fun k_ => k_ < w.heap.size) _ _ l0_2 a0_3 a0_4 a0_5 t249 t252 t253 t256 t257 t258 _ ?side1 ?side2 A17.out).mono ?_); (case side1 => exact Kd.V_mk HC0_0.out (Kd.F_below (Kd.C_F (Kd.heap_int .i64) HR0_0.out) (qb_ HB.out))); (case side2 => exact Kd.V_mk HC0_2.out (Kd.F_below (Kd.C_F Kd.heap_string HR0_2.out) (qb_ HB.out))); rintro e w20 ⟨v250, v254, rfl, ho0, ho1, hb⟩; refine ⟨_, rfl, ?_⟩; have n0_ := Aside0.mk (Kd.V_lower (Kd.V_mono (ok' := fun k_ => k_ ≠ gb246) ho0 (fun k_ hk_ => Or.elim hk_ (fun hs_ => Or.elim hs_ (fun hs_ => fun e_ => Nat.not_le.2 hs_ (by rw [e_]; exact GW246.out)) (fun hs_ => fun e_ => Nat.not_le.2 hs_ (by rw [e_]; exact GW246.out))) (fun hn_ => (Kd.freshB (g := gb246) (o := .cells #[.slice A0_0 l0_0.length c0_0, .int .i64 a0_1, .slice A0_2 l0_2.length c0_2, .bool a0_3, .int .i64 a0_4, .int .i64 a0_5] 26 (0, 0)) (qk_ BK246.out) k_ hn_)))) (below_size (qb_ HB.out))); have n1_ := Aside0.mk (Kd.V_lower (Kd.V_mono (ok' := fun k_ => k_ ≠ gb246) ho1 (fun k_ hk_ => Or.elim hk_ (fun hs_ => Or.elim hs_ (fun hs_ => fun e_ => Nat.not_le.2 hs_ (by rw [e_]; exact GW246.out)) (fun hs_ => fun e_ => Nat.not_le.2 hs_ (by rw [e_]; exact GW246.out))) (fun hn_ => (Kd.freshB (g := gb246) (o := .cells #[.slice A0_0 l0_0.length c0_0, .int .i64 a0_1, .slice A0_2 l0_2.length c0_2, .bool a0_3, .int .i64 a0_4, .int .i64 a0_5] 26 (0, 0)) (qk_ BK246.out) k_ hn_)))) (below_size (qb_ HB.out))); have n2_ := Aside0.mk (blk_below (g := gb246) (o := .cells #[.slice A0_0 l0_0.length c0_0, .int .i64 a0_1, .slice A0_2 l0_2.length c0_2, .bool a0_3, .int .i64 a0_4, .int .i64 a0_5] 26 (0, 0)) (qk_ BK246.out) hb); have n3_ := Aside0.mk (below_step (qb_ HB.out) hb); clear BK246; clear HB; have HO251 := n0_; have HO255 := n1_; have BK246 := n2_; have HB := n3_; clear n0_ n1_ n2_ n3_; (try clear hb); (try clear hb2); (try clear hk); (try clear hi); (try clear ho0); (try clear ho1)) | ((with_reducible refine gate_dst (N := 6) rfl ?_); (try (refine gate_guard (by rfl) ?_; dsimp only)); refine box_event ?hg (N := 6) ?hd (cs := #[.slice none 0 0, .int .i64 0, .slice none 0 0, .bool false, .int .i64 0, .int .i64 0]) (t := 30) ?hr ?_; (case hd => rfl); (case hg => rfl); (case hr => first | (go_simp; done) | (go_simp; rfl)); intro gb259 hg w21 hbox hb; have n0_ := Aside0.mk (Kd.V_below (Kd.V_elderB (by (with_reducible repeat (first | apply Kd.V_alloc | apply Kd.V_drewN | apply Kd.V_drew)); exact HO251.out) gb259 (Nat.le_of_eq hg.symm)) hb); have n1_ := Aside0.mk (Kd.V_below (Kd.V_elderB (by (with_reducible repeat (first | apply Kd.V_alloc | apply Kd.V_drewN | apply Kd.V_drew)); exact HO255.out) gb259 (Nat.le_of_eq hg.symm)) hb); have n2_ := Aside0.mk (blk_below (g := gb246) (o := .cells #[.slice A0_0 l0_0.length c0_0, .int .i64 a0_1, .slice A0_2 l0_2.length c0_2, .bool a0_3, .int .i64 a0_4, .int .i64 a0_5] 26 (0, 0)) (qk_ BK246.out) hb); have n3_ := Aside0.mk (below_step (qb_ HB.out) hb); have n4_ := Aside0.mk (hbox); have n5_ := Aside0.mk ((by rw [hg]; exact (below_size (qb_ HB.out)) : w.heap.size ≤ gb259)); have n6_ := Aside0.mk ((by rw [hg]; exact (below_size (qb_ HB.out)) : w.heap.size ≤ gb259)); have n7_ := Aside0.mk ((by rw [hg]; exact Nat.ne_of_lt (blk_lt (g := gb246) (o := .cells #[.slice A0_0 l0_0.length c0_0, .int .i64 a0_1, .slice A0_2 l0_2.length c0_2, .bool a0_3, .int .i64 a0_4, .int .i64 a0_5] 26 (0, 0)) (qk_ BK246.out)) : gb246 ≠ gb259)); have n8_ := Aside0.mk ((by rw [hg]; exact Nat.ne_of_gt (blk_lt (g := gb246) (o := .cells #[.slice A0_0 l0_0.length c0_0, .int .i64 a0_1, .slice A0_2 l0_2.length c0_2, .bool a0_3, .int .i64 a0_4, .int .i64 a0_5] 26 (0, 0)) (qk_ BK246.out)) : gb259 ≠ gb246)); clear HO251; clear HO255; clear BK246; clear HB; have HO251 := n0_; have HO255 := n1_; have BK246 := n2_; have HB := n3_; have BK259 := n4_; have GW259 := n5_; have GE259 := n6_; have NB246_259 := n7_; have NB259_246 := n8_; clear n0_ n1_ n2_ n3_ n4_ n5_ n6_ n7_ n8_; clear hb hbox hg; obtain ⟨Ao22, co22, eo22⟩ := Kd.V_slice HO251.out; subst eo22; have hnb23 := NB259_246.out; have hnc23 := NB246_259.out; have hcz24_0 : w21.cell? ⟨gb259, 0, none⟩ = some (.slice none 0 0) := (blk_cell BK259.out 0).trans rfl; have hcz24_1 : w21.cell? ⟨gb259, 1, none⟩ = some (.int .i64 0) := (blk_cell BK259.out 1).trans rfl; have hcz24_2 : w21.cell? ⟨gb259, 2, none⟩ = some (.slice none 0 0) := (blk_cell BK259.out 2).trans rfl; have hcz24_3 : w21.cell? ⟨gb259, 3, none⟩ = some (.bool false) := (blk_cell BK259.out 3).trans rfl; have hcz24_4 : w21.cell? ⟨gb259, 4, none⟩ = some (.int .i64 0) := (blk_cell BK259.out 4).trans rfl; have hcz24_5 : w21.cell? ⟨gb259, 5, none⟩ = some (.int .i64 0) := (blk_cell BK259.out 5).trans rfl; have hfz24_0 := blk_frozen BK259.out 0; have hfz24_1 := blk_frozen BK259.out 1; have hfz24_2 := blk_frozen BK259.out 2; have hfz24_3 := blk_frozen BK259.out 3; have hfz24_4 := blk_frozen BK259.out 4; have hfz24_5 := blk_frozen BK259.out 5; obtain ⟨Ao25, co25, eo25⟩ := Kd.V_slice HO255.out; subst eo25))
        (try simp only [Act.put, List.setIfInBounds_toArray, List.set_cons_zero, List.set_cons_succ])
        go_cut [61] (fun v61 wc => ∃ (kq : Nat) (x61_17 : Bool), v61 = .bool x61_17 ∧ Aside0 (letterboxlaw15_SectionPuts.j2 kq x61_17 l0_0 a0_1 l0_2 a0_3 a0_4 a0_5 t249 t252 t253 t256 t257 t258 = some r) ∧ Aside0 (kq ≤ kj8) ∧ Aside0 (Kd.V (Kd.int .i64) 3 wc w.heap.size (fun k_ => k_ ≠ gb246 ∧ k_ ≠ gb259) (.slice Ao22 t249.length co22) t249) ∧ Aside0 (Kd.V Kd.string 9 wc w.heap.size (fun k_ => k_ ≠ gb246 ∧ k_ ≠ gb259) (.slice Ao25 t253.length co25) t253) ∧ Aside0 (wc.heap[gb246]? = some (.cells #[(.slice A0_0 l0_0.length c0_0), .int .i64 a0_1, (.slice A0_2 l0_2.length c0_2), .bool a0_3, .int .i64 a0_4, .int .i64 a0_5] 26 (0, 0))) ∧ Aside0 (wc.heap[gb259]? = some (.cells #[(.slice Ao22 t249.length co22), .int .i64 t252, (.slice Ao25 t253.length co25), .bool t256, .int .i64 t257, .int .i64 t258] 30 (0, 0))) ∧ Aside0 (Below w.heap.size w wc))
        case first =>
         have H := HC18.out
         clear HC18
         replace H := Option.bind_eq_some_iff.mp H
         obtain ⟨t260, A260, H⟩ := H
         replace H : ((letterboxref15_Check.f kj8 t249 t252 t253 t256 t257 t258).bind fun t261 => (if t260 = t261 then ((section_Put.f kj8 l0_0 a0_1 l0_2 a0_3 a0_4 a0_5 false).bind fun t262 => ((letterboxref15_Put.f kj8 t249 t252 t253 t256 t257 t258 false).bind fun t263 => (if t262.toList = t263.toList then ((section_Put.f kj8 l0_0 a0_1 l0_2 a0_3 a0_4 a0_5 true).bind fun t264 => ((letterboxref15_Put.f kj8 t249 t252 t253 t256 t257 t258 true).bind fun t265 => (letterboxlaw15_SectionPuts.j2 kj8 (t264.toList != t265.toList) l0_0 a0_1 l0_2 a0_3 a0_4 a0_5 t249 t252 t253 t256 t257 t258))) else (letterboxlaw15_SectionPuts.j2 kj8 true l0_0 a0_1 l0_2 a0_3 a0_4 a0_5 t249 t252 t253 t256 t257 t258)))) else (letterboxlaw15_SectionPuts.j2 kj8 true l0_0 a0_1 l0_2 a0_3 a0_4 a0_5 t249 t252 t253 t256 t257 t258))) = some r := H
         have A26 := Aside0.mk A260
         clear A260
         replace H := Option.bind_eq_some_iff.mp H
         obtain ⟨t261, A270, H⟩ := H
         replace H : (if t260 = t261 then ((section_Put.f kj8 l0_0 a0_1 l0_2 a0_3 a0_4 a0_5 false).bind fun t262 => ((letterboxref15_Put.f kj8 t249 t252 t253 t256 t257 t258 false).bind fun t263 => (if t262.toList = t263.toList then ((section_Put.f kj8 l0_0 a0_1 l0_2 a0_3 a0_4 a0_5 true).bind fun t264 => ((letterboxref15_Put.f kj8 t249 t252 t253 t256 t257 t258 true).bind fun t265 => (letterboxlaw15_SectionPuts.j2 kj8 (t264.toList != t265.toList) l0_0 a0_1 l0_2 a0_3 a0_4 a0_5 t249 t252 t253 t256 t257 t258))) else (letterboxlaw15_SectionPuts.j2 kj8 true l0_0 a0_1 l0_2 a0_3 a0_4 a0_5 t249 t252 t253 t256 t257 t258)))) else (letterboxlaw15_SectionPuts.j2 kj8 true l0_0 a0_1 l0_2 a0_3 a0_4 a0_5 t249 t252 t253 t256 t257 t258)) = some r := H
         have A27 := Aside0.mk A270
         clear A270
         by_cases c28 : t260 = t261
         ·rw [if_pos c28] at H
          have c28b0 : (t260 == t261) = true := beq_iff_eq.mpr c28
          have c28b1 : (t260 != t261) = false := bne_eq_false_iff_eq.mpr c28
          clear c28
          (first | rw [c28b0] | (simp only [i64_w, i32_w]; rw [c28b0]) | skip)
          replace H := Option.bind_eq_some_iff.mp H
          obtain ⟨t262, A290, H⟩ := H
          replace H : ((letterboxref15_Put.f kj8 t249 t252 t253 t256 t257 t258 false).bind fun t263 => (if t262.toList = t263.toList then ((section_Put.f kj8 l0_0 a0_1 l0_2 a0_3 a0_4 a0_5 true).bind fun t264 => ((letterboxref15_Put.f kj8 t249 t252 t253 t256 t257 t258 true).bind fun t265 => (letterboxlaw15_SectionPuts.j2 kj8 (t264.toList != t265.toList) l0_0 a0_1 l0_2 a0_3 a0_4 a0_5 t249 t252 t253 t256 t257 t258))) else (letterboxlaw15_SectionPuts.j2 kj8 true l0_0 a0_1 l0_2 a0_3 a0_4 a0_5 t249 t252 t253 t256 t257 t258))) = some r := H
          have A29 := Aside0.mk A290
          clear A290
          replace H := Option.bind_eq_some_iff.mp H
          obtain ⟨t263, A300, H⟩ := H
          replace H : (if t262.toList = t263.toList then ((section_Put.f kj8 l0_0 a0_1 l0_2 a0_3 a0_4 a0_5 true).bind fun t264 => ((letterboxref15_Put.f kj8 t249 t252 t253 t256 t257 t258 true).bind fun t265 => (letterboxlaw15_SectionPuts.j2 kj8 (t264.toList != t265.toList) l0_0 a0_1 l0_2 a0_3 a0_4 a0_5 t249 t252 t253 t256 t257 t258))) else (letterboxlaw15_SectionPuts.j2 kj8 true l0_0 a0_1 l0_2 a0_3 a0_4 a0_5 t249 t252 t253 t256 t257 t258)) = some r := H
          have A30 := Aside0.mk A300
          clear A300
          by_cases c31 : t262.toList = t263.toList
          ·rw [if_pos c31] at H
           have c31b0 : (t262.toList == t263.toList) = true := beq_iff_eq.mpr c31
           have c31b1 : (t262.toList != t263.toList) = false := bne_eq_false_iff_eq.mpr c31
           clear c31
           replace H := Option.bind_eq_some_iff.mp H
           obtain ⟨t264, A320, H⟩ := H
           replace H : ((letterboxref15_Put.f kj8 t249 t252 t253 t256 t257 t258 true).bind fun t265 => (letterboxlaw15_SectionPuts.j2 kj8 (t264.toList != t265.toList) l0_0 a0_1 l0_2 a0_3 a0_4 a0_5 t249 t252 t253 t256 t257 t258)) = some r := H
           have A32 := Aside0.mk A320
           clear A320
           replace H := Option.bind_eq_some_iff.mp H
           obtain ⟨t265, A330, H⟩ := H
           replace H : (letterboxlaw15_SectionPuts.j2 kj8 (t264.toList != t265.toList) l0_0 a0_1 l0_2 a0_3 a0_4 a0_5 t249 t252 t253 t256 t257 t258) = some r := H
           have A33 := Aside0.mk A330
           clear A330
           have H' := Aside0.mk H
           clear H
           try go_wp2
           have n0_ : Aside0 (Kd.V (Kd.int .i64) 3 ((((((w21.setCell ⟨gb259, 0, none⟩ (.slice Ao22 t249.length co22)).setCell ⟨gb259, 1, none⟩ (.int .i64 t252)).setCell ⟨gb259, 2, none⟩ (.slice Ao25 t253.length co25)).setCell ⟨gb259, 3, none⟩ (.bool t256)).setCell ⟨gb259, 4, none⟩ (.int .i64 t257)).setCell ⟨gb259, 5, none⟩ (.int .i64 t258)) w.heap.size (fun k_ => k_ ≠ gb246 ∧ k_ ≠ gb259) (.slice Ao22 t249.length co22) t249) := ⟨by (with_reducible repeat (first | apply Kd.V_alloc | apply Kd.V_drewN | apply Kd.V_drew)); exact Kd.V_mono (Kd.V_far (p := ⟨gb259, 5, none⟩) (Kd.V_far (p := ⟨gb259, 4, none⟩) (Kd.V_far (p := ⟨gb259, 3, none⟩) (Kd.V_far (p := ⟨gb259, 2, none⟩) (Kd.V_far (p := ⟨gb259, 1, none⟩) (Kd.V_far (p := ⟨gb259, 0, none⟩) (Kd.V_mono HO251.out (fun k_ hk => (⟨hk, hk.2⟩ : _ ∧ k_ ≠ gb259))) (fun _ hk => hk.2) (.slice Ao22 t249.length co22)) (fun _ hk => hk.2) (.int .i64 t252)) (fun _ hk => hk.2) (.slice Ao25 t253.length co25)) (fun _ hk => hk.2) (.bool t256)) (fun _ hk => hk.2) (.int .i64 t257)) (fun _ hk => hk.2) (.int .i64 t258)) (fun _ hk => ⟨hk.1.1, hk.1.2⟩)⟩
           have n1_ : Aside0 (Kd.V Kd.string 9 ((((((w21.setCell ⟨gb259, 0, none⟩ (.slice Ao22 t249.length co22)).setCell ⟨gb259, 1, none⟩ (.int .i64 t252)).setCell ⟨gb259, 2, none⟩ (.slice Ao25 t253.length co25)).setCell ⟨gb259, 3, none⟩ (.bool t256)).setCell ⟨gb259, 4, none⟩ (.int .i64 t257)).setCell ⟨gb259, 5, none⟩ (.int .i64 t258)) w.heap.size (fun k_ => k_ ≠ gb246 ∧ k_ ≠ gb259) (.slice Ao25 t253.length co25) t253) := ⟨by (with_reducible repeat (first | apply Kd.V_alloc | apply Kd.V_drewN | apply Kd.V_drew)); exact Kd.V_mono (Kd.V_far (p := ⟨gb259, 5, none⟩) (Kd.V_far (p := ⟨gb259, 4, none⟩) (Kd.V_far (p := ⟨gb259, 3, none⟩) (Kd.V_far (p := ⟨gb259, 2, none⟩) (Kd.V_far (p := ⟨gb259, 1, none⟩) (Kd.V_far (p := ⟨gb259, 0, none⟩) (Kd.V_mono HO255.out (fun k_ hk => (⟨hk, hk.2⟩ : _ ∧ k_ ≠ gb259))) (fun _ hk => hk.2) (.slice Ao22 t249.length co22)) (fun _ hk => hk.2) (.int .i64 t252)) (fun _ hk => hk.2) (.slice Ao25 t253.length co25)) (fun _ hk => hk.2) (.bool t256)) (fun _ hk => hk.2) (.int .i64 t257)) (fun _ hk => hk.2) (.int .i64 t258)) (fun _ hk => ⟨hk.1.1, hk.1.2⟩)⟩
           have n2_ : Aside0 (((((((w21.setCell ⟨gb259, 0, none⟩ (.slice Ao22 t249.length co22)).setCell ⟨gb259, 1, none⟩ (.int .i64 t252)).setCell ⟨gb259, 2, none⟩ (.slice Ao25 t253.length co25)).setCell ⟨gb259, 3, none⟩ (.bool t256)).setCell ⟨gb259, 4, none⟩ (.int .i64 t257)).setCell ⟨gb259, 5, none⟩ (.int .i64 t258)).heap[gb246]? = some (.cells #[.slice A0_0 l0_0.length c0_0, .int .i64 a0_1, .slice A0_2 l0_2.length c0_2, .bool a0_3, .int .i64 a0_4, .int .i64 a0_5] 26 (0, 0))) := ⟨by (with_reducible repeat (first | refine blk_drewN ?_ _ | refine blk_drew ?_ | refine blk_alloc ?_ _)); refine blk_far ?_ NB246_259.out _; (with_reducible repeat (first | refine blk_drewN ?_ _ | refine blk_drew ?_ | refine blk_alloc ?_ _)); refine blk_far ?_ NB246_259.out _; (with_reducible repeat (first | refine blk_drewN ?_ _ | refine blk_drew ?_ | refine blk_alloc ?_ _)); refine blk_far ?_ NB246_259.out _; (with_reducible repeat (first | refine blk_drewN ?_ _ | refine blk_drew ?_ | refine blk_alloc ?_ _)); refine blk_far ?_ NB246_259.out _; (with_reducible repeat (first | refine blk_drewN ?_ _ | refine blk_drew ?_ | refine blk_alloc ?_ _)); refine blk_far ?_ NB246_259.out _; (with_reducible repeat (first | refine blk_drewN ?_ _ | refine blk_drew ?_ | refine blk_alloc ?_ _)); refine blk_far ?_ NB246_259.out _; (with_reducible repeat (first | refine blk_drewN ?_ _ | refine blk_drew ?_ | refine blk_alloc ?_ _)); exact BK246.out⟩
           have n3_ : Aside0 (((((((w21.setCell ⟨gb259, 0, none⟩ (.slice Ao22 t249.length co22)).setCell ⟨gb259, 1, none⟩ (.int .i64 t252)).setCell ⟨gb259, 2, none⟩ (.slice Ao25 t253.length co25)).setCell ⟨gb259, 3, none⟩ (.bool t256)).setCell ⟨gb259, 4, none⟩ (.int .i64 t257)).setCell ⟨gb259, 5, none⟩ (.int .i64 t258)).heap[gb259]? = some (.cells #[.slice Ao22 t249.length co22, .int .i64 t252, .slice Ao25 t253.length co25, .bool t256, .int .i64 t257, .int .i64 t258] 30 (0, 0))) := ⟨by (with_reducible repeat (first | refine blk_drewN ?_ _ | refine blk_drew ?_ | refine blk_alloc ?_ _)); refine blk_put (cs := #[.slice Ao22 t249.length co22, .int .i64 t252, .slice Ao25 t253.length co25, .bool t256, .int .i64 t257, .int .i64 0]) ?_ 5 _ rfl; (with_reducible repeat (first | refine blk_drewN ?_ _ | refine blk_drew ?_ | refine blk_alloc ?_ _)); refine blk_put (cs := #[.slice Ao22 t249.length co22, .int .i64 t252, .slice Ao25 t253.length co25, .bool t256, .int .i64 0, .int .i64 0]) ?_ 4 _ rfl; (with_reducible repeat (first | refine blk_drewN ?_ _ | refine blk_drew ?_ | refine blk_alloc ?_ _)); refine blk_put (cs := #[.slice Ao22 t249.length co22, .int .i64 t252, .slice Ao25 t253.length co25, .bool false, .int .i64 0, .int .i64 0]) ?_ 3 _ rfl; (with_reducible repeat (first | refine blk_drewN ?_ _ | refine blk_drew ?_ | refine blk_alloc ?_ _)); refine blk_put (cs := #[.slice Ao22 t249.length co22, .int .i64 t252, .slice none 0 0, .bool false, .int .i64 0, .int .i64 0]) ?_ 2 _ rfl; (with_reducible repeat (first | refine blk_drewN ?_ _ | refine blk_drew ?_ | refine blk_alloc ?_ _)); refine blk_put (cs := #[.slice Ao22 t249.length co22, .int .i64 0, .slice none 0 0, .bool false, .int .i64 0, .int .i64 0]) ?_ 1 _ rfl; (with_reducible repeat (first | refine blk_drewN ?_ _ | refine blk_drew ?_ | refine blk_alloc ?_ _)); refine blk_put (cs := #[.slice none 0 0, .int .i64 0, .slice none 0 0, .bool false, .int .i64 0, .int .i64 0]) ?_ 0 _ rfl; (with_reducible repeat (first | refine blk_drewN ?_ _ | refine blk_drew ?_ | refine blk_alloc ?_ _)); exact BK259.out⟩
           have n4_ : Aside0 (Below w.heap.size w ((((((w21.setCell ⟨gb259, 0, none⟩ (.slice Ao22 t249.length co22)).setCell ⟨gb259, 1, none⟩ (.int .i64 t252)).setCell ⟨gb259, 2, none⟩ (.slice Ao25 t253.length co25)).setCell ⟨gb259, 3, none⟩ (.bool t256)).setCell ⟨gb259, 4, none⟩ (.int .i64 t257)).setCell ⟨gb259, 5, none⟩ (.int .i64 t258))) := ⟨qb_ HB.out⟩
           (try clear HO251)
           (try clear HO255)
           (try clear BK246)
           (try clear BK259)
           (try clear HB)
           generalize ((((((w21.setCell ⟨gb259, 0, none⟩ (.slice Ao22 t249.length co22)).setCell ⟨gb259, 1, none⟩ (.int .i64 t252)).setCell ⟨gb259, 2, none⟩ (.slice Ao25 t253.length co25)).setCell ⟨gb259, 3, none⟩ (.bool t256)).setCell ⟨gb259, 4, none⟩ (.int .i64 t257)).setCell ⟨gb259, 5, none⟩ (.int .i64 t258)) = w34 at n0_ n1_ n2_ n3_ n4_ ⊢
           have HO251 := n0_
           have HO255 := n1_
           have BK246 := n2_
           have BK259 := n3_
           have HB := n4_
           clear n0_ n1_ n2_ n3_ n4_
           have n0_ := Aside0.mk (Kd.V_drew HO251.out)
           have n1_ := Aside0.mk (Kd.V_drew HO255.out)
           have n2_ := Aside0.mk (blk_drew BK246.out)
           have n3_ := Aside0.mk (blk_drew BK259.out)
           have n4_ := Aside0.mk (below_drew1 HB.out)
           clear HO251
           clear HO255
           clear BK246
           clear BK259
           clear HB
           have HO251 := n0_
           have HO255 := n1_
           have BK246 := n2_
           have BK259 := n3_
           have HB := n4_
           clear n0_ n1_ n2_ n3_ n4_
           refine start_ (n := 19) (S := fun w' => w'.cell? ⟨gb246, 0, none⟩ = some (.slice A0_0 l0_0.length c0_0) ∧ w'.cell? ⟨gb246, 1, none⟩ = some (.int .i64 a0_1) ∧ w'.cell? ⟨gb246, 2, none⟩ = some (.slice A0_2 l0_2.length c0_2) ∧ w'.cell? ⟨gb246, 3, none⟩ = some (.bool a0_3) ∧ w'.cell? ⟨gb246, 4, none⟩ = some (.int .i64 a0_4) ∧ w'.cell? ⟨gb246, 5, none⟩ = some (.int .i64 a0_5) ∧ w'.cell? ⟨gb259, 0, none⟩ = some (.slice Ao22 t249.length co22) ∧ w'.cell? ⟨gb259, 1, none⟩ = some (.int .i64 t252) ∧ w'.cell? ⟨gb259, 2, none⟩ = some (.slice Ao25 t253.length co25) ∧ w'.cell? ⟨gb259, 3, none⟩ = some (.bool t256) ∧ w'.cell? ⟨gb259, 4, none⟩ = some (.int .i64 t257) ∧ w'.cell? ⟨gb259, 5, none⟩ = some (.int .i64 t258)) (ds := []) #[false, false, false, false, false, false, false, false, false, false, false, false, false, false, false, false, false, false, false] (by kernel_rfl) rfl rfl ⟨(blk_cell BK246.out 0).trans rfl, (blk_cell BK246.out 1).trans rfl, (blk_cell BK246.out 2).trans rfl, (blk_cell BK246.out 3).trans rfl, (blk_cell BK246.out 4).trans rfl, (blk_cell BK246.out 5).trans rfl, (blk_cell BK259.out 0).trans rfl, (blk_cell BK259.out 1).trans rfl, (blk_cell BK259.out 2).trans rfl, (blk_cell BK259.out 3).trans rfl, (blk_cell BK259.out 4).trans rfl, (blk_cell BK259.out 5).trans rfl⟩ (fun hHeld => ?_); refine with_tabW letterboxlaw15_SectionPuts.tab12 letterboxlaw15_SectionPuts.bits12 (fun HT_ HW_ => ?_)
           generalize w34.drew = w35 at HO251 HO255 BK246 BK259 HB hHeld ⊢
           refine take_ (i := 0) (N := some 43) (v := ?_) (a' := ?_) #[true, false, false, false, false, false, false, false, false, false, false, false, false, false, false, false, false, false, false] rfl rfl (take_ofW HT_.out HW_.out (by kernel_rfl)) (fun _ _ _ h => h) (Or.inl ⟨by rfl, ?_⟩) hHeld ?_ ?_
           rotate_left
           ·rintro w' ⟨s0, s1, s2, s3, s4, s5, s6, s7, s8, s9, s10, s11⟩
            go_simp
            with_reducible rfl
           rotate_left
           ·simp only [Act.put, List.setIfInBounds_toArray, List.set_cons_zero, List.set_cons_succ, i64_w, i32_w]
            rfl
           refine take_ (i := 2) (N := some 45) (v := ?_) (a' := ?_) #[true, false, true, false, false, false, false, false, false, false, false, false, false, false, false, false, false, false, false] rfl rfl (take_ofW HT_.out HW_.out (by kernel_rfl)) (fun _ _ _ h => h) (Or.inl ⟨by rfl, ?_⟩) hHeld ?_ ?_
           rotate_left
           ·rintro w' ⟨s0, s1, s2, s3, s4, s5, s6, s7, s8, s9, s10, s11⟩
            go_simp
            with_reducible rfl
           rotate_left
           ·simp only [Act.put, List.setIfInBounds_toArray, List.set_cons_zero, List.set_cons_succ, i64_w, i32_w]
            rfl
           refine one_ (i := 1) (N := some 44) #[true, true, true, false, false, false, false, false, false, false, false, false, false, false, false, false, false, false, false] rfl rfl (one_of HT_.out (by kernel_rfl)) (by decide) (fun K hK => ?_)
           refine goes_ Tryd.func12 (by kernel_rfl) rfl #[.agg #[.slice A0_0 l0_0.length c0_0, .int .i64 a0_1, .slice A0_2 l0_2.length c0_2, .bool a0_3, .int .i64 a0_4, .int .i64 a0_5]] (by rfl) rfl rfl qa_ ?_
           with_reducible refine (section_Check.calls kj8 _ _ l0_0 a0_1 _ _ l0_2 a0_3 a0_4 a0_5 t260 _ ?side1 ?side2 ?side3 ?side4 A26.out).mono ?_
           (case side1 => repeat (first | exact (Kd.C_below HR0_0.out HB.out) | (with_reducible refine Kd.C_alloc ?_ _) | (with_reducible refine Kd.C_drewN ?_ _) | (with_reducible refine Kd.C_drew ?_)))
           (case side2 => exact HC0_0.out)
           (case side3 => repeat (first | exact (Kd.C_below HR0_2.out HB.out) | (with_reducible refine Kd.C_alloc ?_ _) | (with_reducible refine Kd.C_drewN ?_ _) | (with_reducible refine Kd.C_drew ?_)))
           (case side4 => exact HC0_2.out)
           rintro e w36 ⟨rfl, hb⟩
           refine ⟨_, rfl, ?_⟩
           have n0_ := Aside0.mk (Kd.V_below (by (with_reducible repeat (first | apply Kd.V_alloc | apply Kd.V_drewN | apply Kd.V_drew)); exact HO251.out) hb)
           have n1_ := Aside0.mk (Kd.V_below (by (with_reducible repeat (first | apply Kd.V_alloc | apply Kd.V_drewN | apply Kd.V_drew)); exact HO255.out) hb)
           have n2_ := Aside0.mk (blk_below (g := gb246) (o := .cells #[.slice A0_0 l0_0.length c0_0, .int .i64 a0_1, .slice A0_2 l0_2.length c0_2, .bool a0_3, .int .i64 a0_4, .int .i64 a0_5] 26 (0, 0)) (qk_ BK246.out) hb)
           have n3_ := Aside0.mk (blk_below (g := gb259) (o := .cells #[.slice Ao22 t249.length co22, .int .i64 t252, .slice Ao25 t253.length co25, .bool t256, .int .i64 t257, .int .i64 t258] 30 (0, 0)) (qk_ BK259.out) hb)
           have n4_ := Aside0.mk (below_step (qb_ HB.out) hb)
           clear HO251
           clear HO255
           clear BK246
           clear BK259
           clear HB
           have HO251 := n0_
           have HO255 := n1_
           have BK246 := n2_
           have BK259 := n3_
           have HB := n4_
           clear n0_ n1_ n2_ n3_ n4_
           (try clear hb)
           (try clear hb2)
           (try clear hk)
           (try clear hi)
           refine hK.out _ _ ⟨(blk_cell BK246.out 0).trans rfl, (blk_cell BK246.out 1).trans rfl, (blk_cell BK246.out 2).trans rfl, (blk_cell BK246.out 3).trans rfl, (blk_cell BK246.out 4).trans rfl, (blk_cell BK246.out 5).trans rfl, (blk_cell BK259.out 0).trans rfl, (blk_cell BK259.out 1).trans rfl, (blk_cell BK259.out 2).trans rfl, (blk_cell BK259.out 3).trans rfl, (blk_cell BK259.out 4).trans rfl, (blk_cell BK259.out 5).trans rfl⟩ (fun hHeld => ?_)
           clear hK K
           refine norm_ (a' := ?_) ?_ ?_
           rotate_left
           ·show Act.put _ (some 44) _ = _
            simp only [Act.put, List.setIfInBounds_toArray, List.set_cons_zero, List.set_cons_succ, i64_w, i32_w]
            rfl
           refine one_ (i := 3) (N := some 46) #[true, true, true, true, false, false, false, false, false, false, false, false, false, false, false, false, false, false, false] rfl rfl (one_of HT_.out (by kernel_rfl)) (by decide) (fun K hK => ?_)
           refine goes_ Tryd.func13 (by kernel_rfl) rfl #[.agg #[.slice Ao22 t249.length co22, .int .i64 t252, .slice Ao25 t253.length co25, .bool t256, .int .i64 t257, .int .i64 t258]] (by rfl) rfl rfl qa_ ?_
           with_reducible refine (letterboxref15_Check.calls kj8 _ _ t249 t252 _ _ t253 t256 t257 t258 t261 _ ?side1 ?side2 ?side3 ?side4 A27.out).mono ?_
           (case side1 => repeat (first | exact (Kd.V_reads' HO251.out).2.2 | (with_reducible refine Kd.C_alloc ?_ _) | (with_reducible refine Kd.C_drewN ?_ _) | (with_reducible refine Kd.C_drew ?_)))
           (case side2 => exact (Kd.V_reads' HO251.out).2.1)
           (case side3 => repeat (first | exact (Kd.V_reads' HO255.out).2.2 | (with_reducible refine Kd.C_alloc ?_ _) | (with_reducible refine Kd.C_drewN ?_ _) | (with_reducible refine Kd.C_drew ?_)))
           (case side4 => exact (Kd.V_reads' HO255.out).2.1)
           rintro e w37 ⟨rfl, hb⟩
           refine ⟨_, rfl, ?_⟩
           have n0_ := Aside0.mk (Kd.V_below (by (with_reducible repeat (first | apply Kd.V_alloc | apply Kd.V_drewN | apply Kd.V_drew)); exact HO251.out) hb)
           have n1_ := Aside0.mk (Kd.V_below (by (with_reducible repeat (first | apply Kd.V_alloc | apply Kd.V_drewN | apply Kd.V_drew)); exact HO255.out) hb)
           have n2_ := Aside0.mk (blk_below (g := gb246) (o := .cells #[.slice A0_0 l0_0.length c0_0, .int .i64 a0_1, .slice A0_2 l0_2.length c0_2, .bool a0_3, .int .i64 a0_4, .int .i64 a0_5] 26 (0, 0)) (qk_ BK246.out) hb)
           have n3_ := Aside0.mk (blk_below (g := gb259) (o := .cells #[.slice Ao22 t249.length co22, .int .i64 t252, .slice Ao25 t253.length co25, .bool t256, .int .i64 t257, .int .i64 t258] 30 (0, 0)) (qk_ BK259.out) hb)
           have n4_ := Aside0.mk (below_step (qb_ HB.out) hb)
           clear HO251
           clear HO255
           clear BK246
           clear BK259
           clear HB
           have HO251 := n0_
           have HO255 := n1_
           have BK246 := n2_
           have BK259 := n3_
           have HB := n4_
           clear n0_ n1_ n2_ n3_ n4_
           (try clear hb)
           (try clear hb2)
           (try clear hk)
           (try clear hi)
           refine hK.out _ _ ⟨(blk_cell BK246.out 0).trans rfl, (blk_cell BK246.out 1).trans rfl, (blk_cell BK246.out 2).trans rfl, (blk_cell BK246.out 3).trans rfl, (blk_cell BK246.out 4).trans rfl, (blk_cell BK246.out 5).trans rfl, (blk_cell BK259.out 0).trans rfl, (blk_cell BK259.out 1).trans rfl, (blk_cell BK259.out 2).trans rfl, (blk_cell BK259.out 3).trans rfl, (blk_cell BK259.out 4).trans rfl, (blk_cell BK259.out 5).trans rfl⟩ (fun hHeld => ?_)
           clear hK K
           refine norm_ (a' := ?_) ?_ ?_
           rotate_left
           ·show Act.put _ (some 46) _ = _
            simp only [Act.put, List.setIfInBounds_toArray, List.set_cons_zero, List.set_cons_succ, i64_w, i32_w]
            rfl
           refine pure_ (i := 4) (N := some 47) (v := ?_) (a' := ?_) #[true, true, true, true, true, false, false, false, false, false, false, false, false, false, false, false, false, false, false] rfl rfl (any_of HT_.out (by kernel_rfl)) (fun _ _ _ h => h) (Or.inl ⟨by rfl, ?_⟩) ?_ ?_
           rotate_left
           ·intro w'
            go_simp
            with_reducible rfl
           rotate_left
           ·simp only [Act.put, List.setIfInBounds_toArray, List.set_cons_zero, List.set_cons_succ, i64_w, i32_w]
            rfl
           refine pure_ (i := 5) (N := some 48) (v := ?_) (a' := ?_) #[true, true, true, true, true, true, false, false, false, false, false, false, false, false, false, false, false, false, false] rfl rfl (any_of HT_.out (by kernel_rfl)) (fun _ _ _ h => h) (Or.inl ⟨by rfl, ?_⟩) ?_ ?_
           rotate_left
           ·intro w'
            go_simp
            with_reducible rfl
           rotate_left
           ·simp only [Act.put, List.setIfInBounds_toArray, List.set_cons_zero, List.set_cons_succ, i64_w, i32_w]
            rfl
           refine take_ (i := 6) (N := some 49) (v := ?_) (a' := ?_) #[true, true, true, true, true, true, true, false, false, false, false, false, false, false, false, false, false, false, false] rfl rfl (take_ofW HT_.out HW_.out (by kernel_rfl)) (fun _ _ _ h => h) (Or.inl ⟨by rfl, ?_⟩) hHeld ?_ ?_
           rotate_left
           ·rintro w' ⟨s0, s1, s2, s3, s4, s5, s6, s7, s8, s9, s10, s11⟩
            go_simp
            with_reducible rfl
           rotate_left
           ·simp only [Act.put, List.setIfInBounds_toArray, List.set_cons_zero, List.set_cons_succ, i64_w, i32_w]
            rfl
           refine take_ (i := 8) (N := some 51) (v := ?_) (a' := ?_) #[true, true, true, true, true, true, true, false, true, false, false, false, false, false, false, false, false, false, false] rfl rfl (take_ofW HT_.out HW_.out (by kernel_rfl)) (fun _ _ _ h => h) (Or.inl ⟨by rfl, ?_⟩) hHeld ?_ ?_
           rotate_left
           ·rintro w' ⟨s0, s1, s2, s3, s4, s5, s6, s7, s8, s9, s10, s11⟩
            go_simp
            with_reducible rfl
           rotate_left
           ·simp only [Act.put, List.setIfInBounds_toArray, List.set_cons_zero, List.set_cons_succ, i64_w, i32_w]
            rfl
           refine one_ (i := 7) (N := some 50) #[true, true, true, true, true, true, true, true, true, false, false, false, false, false, false, false, false, false, false] rfl rfl (one_of HT_.out (by kernel_rfl)) (by decide) (fun K hK => ?_)
           refine goes_ Tryd.func14 (by kernel_rfl) rfl #[.agg #[.slice A0_0 l0_0.length c0_0, .int .i64 a0_1, .slice A0_2 l0_2.length c0_2, .bool a0_3, .int .i64 a0_4, .int .i64 a0_5], .bool false] (by rfl) rfl rfl qa_ ?_
           with_reducible refine (section_Put.calls kj8 _ _ l0_0 a0_1 _ _ l0_2 a0_3 a0_4 a0_5 false t262 _ ?side1 ?side2 ?side3 ?side4 A29.out).mono ?_
           (case side1 => repeat (first | exact (Kd.C_below HR0_0.out HB.out) | (with_reducible refine Kd.C_alloc ?_ _) | (with_reducible refine Kd.C_drewN ?_ _) | (with_reducible refine Kd.C_drew ?_)))
           (case side2 => exact HC0_0.out)
           (case side3 => repeat (first | exact (Kd.C_below HR0_2.out HB.out) | (with_reducible refine Kd.C_alloc ?_ _) | (with_reducible refine Kd.C_drewN ?_ _) | (with_reducible refine Kd.C_drew ?_)))
           (case side4 => exact HC0_2.out)
           rintro e w38 ⟨rfl, hb⟩
           refine ⟨_, rfl, ?_⟩
           have n0_ := Aside0.mk (Kd.V_below (by (with_reducible repeat (first | apply Kd.V_alloc | apply Kd.V_drewN | apply Kd.V_drew)); exact HO251.out) hb)
           have n1_ := Aside0.mk (Kd.V_below (by (with_reducible repeat (first | apply Kd.V_alloc | apply Kd.V_drewN | apply Kd.V_drew)); exact HO255.out) hb)
           have n2_ := Aside0.mk (blk_below (g := gb246) (o := .cells #[.slice A0_0 l0_0.length c0_0, .int .i64 a0_1, .slice A0_2 l0_2.length c0_2, .bool a0_3, .int .i64 a0_4, .int .i64 a0_5] 26 (0, 0)) (qk_ BK246.out) hb)
           have n3_ := Aside0.mk (blk_below (g := gb259) (o := .cells #[.slice Ao22 t249.length co22, .int .i64 t252, .slice Ao25 t253.length co25, .bool t256, .int .i64 t257, .int .i64 t258] 30 (0, 0)) (qk_ BK259.out) hb)
           have n4_ := Aside0.mk (below_step (qb_ HB.out) hb)
           clear HO251
           clear HO255
           clear BK246
           clear BK259
           clear HB
           have HO251 := n0_
           have HO255 := n1_
           have BK246 := n2_
           have BK259 := n3_
           have HB := n4_
           clear n0_ n1_ n2_ n3_ n4_
           (try clear hb)
           (try clear hb2)
           (try clear hk)
           (try clear hi)
           refine hK.out _ _ ⟨(blk_cell BK246.out 0).trans rfl, (blk_cell BK246.out 1).trans rfl, (blk_cell BK246.out 2).trans rfl, (blk_cell BK246.out 3).trans rfl, (blk_cell BK246.out 4).trans rfl, (blk_cell BK246.out 5).trans rfl, (blk_cell BK259.out 0).trans rfl, (blk_cell BK259.out 1).trans rfl, (blk_cell BK259.out 2).trans rfl, (blk_cell BK259.out 3).trans rfl, (blk_cell BK259.out 4).trans rfl, (blk_cell BK259.out 5).trans rfl⟩ (fun hHeld => ?_)
           clear hK K
           refine norm_ (a' := ?_) ?_ ?_
           rotate_left
           ·show Act.put _ (some 50) _ = _
            simp only [Act.put, List.setIfInBounds_toArray, List.set_cons_zero, List.set_cons_succ, i64_w, i32_w]
            rfl
           refine one_ (i := 9) (N := some 52) #[true, true, true, true, true, true, true, true, true, true, false, false, false, false, false, false, false, false, false] rfl rfl (one_of HT_.out (by kernel_rfl)) (by decide) (fun K hK => ?_)
           refine goes_ Tryd.func15 (by kernel_rfl) rfl #[.agg #[.slice Ao22 t249.length co22, .int .i64 t252, .slice Ao25 t253.length co25, .bool t256, .int .i64 t257, .int .i64 t258], .bool false] (by rfl) rfl rfl qa_ ?_
           with_reducible refine (letterboxref15_Put.calls kj8 _ _ t249 t252 _ _ t253 t256 t257 t258 false t263 _ ?side1 ?side2 ?side3 ?side4 A30.out).mono ?_
           (case side1 => repeat (first | exact (Kd.V_reads' HO251.out).2.2 | (with_reducible refine Kd.C_alloc ?_ _) | (with_reducible refine Kd.C_drewN ?_ _) | (with_reducible refine Kd.C_drew ?_)))
           (case side2 => exact (Kd.V_reads' HO251.out).2.1)
           (case side3 => repeat (first | exact (Kd.V_reads' HO255.out).2.2 | (with_reducible refine Kd.C_alloc ?_ _) | (with_reducible refine Kd.C_drewN ?_ _) | (with_reducible refine Kd.C_drew ?_)))
           (case side4 => exact (Kd.V_reads' HO255.out).2.1)
           rintro e w39 ⟨rfl, hb⟩
           refine ⟨_, rfl, ?_⟩
           have n0_ := Aside0.mk (Kd.V_below (by (with_reducible repeat (first | apply Kd.V_alloc | apply Kd.V_drewN | apply Kd.V_drew)); exact HO251.out) hb)
           have n1_ := Aside0.mk (Kd.V_below (by (with_reducible repeat (first | apply Kd.V_alloc | apply Kd.V_drewN | apply Kd.V_drew)); exact HO255.out) hb)
           have n2_ := Aside0.mk (blk_below (g := gb246) (o := .cells #[.slice A0_0 l0_0.length c0_0, .int .i64 a0_1, .slice A0_2 l0_2.length c0_2, .bool a0_3, .int .i64 a0_4, .int .i64 a0_5] 26 (0, 0)) (qk_ BK246.out) hb)
           have n3_ := Aside0.mk (blk_below (g := gb259) (o := .cells #[.slice Ao22 t249.length co22, .int .i64 t252, .slice Ao25 t253.length co25, .bool t256, .int .i64 t257, .int .i64 t258] 30 (0, 0)) (qk_ BK259.out) hb)
           have n4_ := Aside0.mk (below_step (qb_ HB.out) hb)
           clear HO251
           clear HO255
           clear BK246
           clear BK259
           clear HB
           have HO251 := n0_
           have HO255 := n1_
           have BK246 := n2_
           have BK259 := n3_
           have HB := n4_
           clear n0_ n1_ n2_ n3_ n4_
           (try clear hb)
           (try clear hb2)
           (try clear hk)
           (try clear hi)
           refine hK.out _ _ ⟨(blk_cell BK246.out 0).trans rfl, (blk_cell BK246.out 1).trans rfl, (blk_cell BK246.out 2).trans rfl, (blk_cell BK246.out 3).trans rfl, (blk_cell BK246.out 4).trans rfl, (blk_cell BK246.out 5).trans rfl, (blk_cell BK259.out 0).trans rfl, (blk_cell BK259.out 1).trans rfl, (blk_cell BK259.out 2).trans rfl, (blk_cell BK259.out 3).trans rfl, (blk_cell BK259.out 4).trans rfl, (blk_cell BK259.out 5).trans rfl⟩ (fun hHeld => ?_)
           clear hK K
           refine norm_ (a' := ?_) ?_ ?_
           rotate_left
           ·show Act.put _ (some 52) _ = _
            simp only [Act.put, List.setIfInBounds_toArray, List.set_cons_zero, List.set_cons_succ, i64_w, i32_w]
            rfl
           refine pure_ (i := 10) (N := some 53) (v := ?_) (a' := ?_) #[true, true, true, true, true, true, true, true, true, true, true, false, false, false, false, false, false, false, false] rfl rfl (any_of HT_.out (by kernel_rfl)) (fun _ _ _ h => h) (Or.inl ⟨by rfl, ?_⟩) ?_ ?_
           rotate_left
           ·intro w'
            go_simp
            with_reducible rfl
           rotate_left
           ·simp only [Act.put, List.setIfInBounds_toArray, List.set_cons_zero, List.set_cons_succ, i64_w, i32_w]
            rfl
           refine pure_ (i := 11) (N := some 54) (v := ?_) (a' := ?_) #[true, true, true, true, true, true, true, true, true, true, true, true, false, false, false, false, false, false, false] rfl rfl (any_of HT_.out (by kernel_rfl)) (fun _ _ _ h => h) (Or.inl ⟨by rfl, ?_⟩) ?_ ?_
           rotate_left
           ·intro w'
            go_simp
            with_reducible rfl
           rotate_left
           ·simp only [Act.put, List.setIfInBounds_toArray, List.set_cons_zero, List.set_cons_succ, i64_w, i32_w]
            rfl
           refine pure_ (i := 12) (N := some 55) (v := ?_) (a' := ?_) #[true, true, true, true, true, true, true, true, true, true, true, true, true, false, false, false, false, false, false] rfl rfl (any_of HT_.out (by kernel_rfl)) (fun _ _ _ h => h) (Or.inl ⟨by rfl, ?_⟩) ?_ ?_
           rotate_left
           ·intro w'
            go_simp
            with_reducible rfl
           rotate_left
           ·simp only [Act.put, List.setIfInBounds_toArray, List.set_cons_zero, List.set_cons_succ, i64_w, i32_w]
            rfl
           refine take_ (i := 13) (N := some 56) (v := ?_) (a' := ?_) #[true, true, true, true, true, true, true, true, true, true, true, true, true, true, false, false, false, false, false] rfl rfl (take_ofW HT_.out HW_.out (by kernel_rfl)) (fun _ _ _ h => h) (Or.inl ⟨by rfl, ?_⟩) hHeld ?_ ?_
           rotate_left
           ·rintro w' ⟨s0, s1, s2, s3, s4, s5, s6, s7, s8, s9, s10, s11⟩
            go_simp
            with_reducible rfl
           rotate_left
           ·simp only [Act.put, List.setIfInBounds_toArray, List.set_cons_zero, List.set_cons_succ, i64_w, i32_w]
            rfl
           refine take_ (i := 15) (N := some 58) (v := ?_) (a' := ?_) #[true, true, true, true, true, true, true, true, true, true, true, true, true, true, false, true, false, false, false] rfl rfl (take_ofW HT_.out HW_.out (by kernel_rfl)) (fun _ _ _ h => h) (Or.inl ⟨by rfl, ?_⟩) hHeld ?_ ?_
           rotate_left
           ·rintro w' ⟨s0, s1, s2, s3, s4, s5, s6, s7, s8, s9, s10, s11⟩
            go_simp
            with_reducible rfl
           rotate_left
           ·simp only [Act.put, List.setIfInBounds_toArray, List.set_cons_zero, List.set_cons_succ, i64_w, i32_w]
            rfl
           refine one_ (i := 14) (N := some 57) #[true, true, true, true, true, true, true, true, true, true, true, true, true, true, true, true, false, false, false] rfl rfl (one_of HT_.out (by kernel_rfl)) (by decide) (fun K hK => ?_)
           refine goes_ Tryd.func14 (by kernel_rfl) rfl #[.agg #[.slice A0_0 l0_0.length c0_0, .int .i64 a0_1, .slice A0_2 l0_2.length c0_2, .bool a0_3, .int .i64 a0_4, .int .i64 a0_5], .bool true] (by rfl) rfl rfl qa_ ?_
           with_reducible refine (section_Put.calls kj8 _ _ l0_0 a0_1 _ _ l0_2 a0_3 a0_4 a0_5 true t264 _ ?side1 ?side2 ?side3 ?side4 A32.out).mono ?_
           (case side1 => repeat (first | exact (Kd.C_below HR0_0.out HB.out) | (with_reducible refine Kd.C_alloc ?_ _) | (with_reducible refine Kd.C_drewN ?_ _) | (with_reducible refine Kd.C_drew ?_)))
           (case side2 => exact HC0_0.out)
           (case side3 => repeat (first | exact (Kd.C_below HR0_2.out HB.out) | (with_reducible refine Kd.C_alloc ?_ _) | (with_reducible refine Kd.C_drewN ?_ _) | (with_reducible refine Kd.C_drew ?_)))
           (case side4 => exact HC0_2.out)
           rintro e w40 ⟨rfl, hb⟩
           refine ⟨_, rfl, ?_⟩
           have n0_ := Aside0.mk (Kd.V_below (by (with_reducible repeat (first | apply Kd.V_alloc | apply Kd.V_drewN | apply Kd.V_drew)); exact HO251.out) hb)
           have n1_ := Aside0.mk (Kd.V_below (by (with_reducible repeat (first | apply Kd.V_alloc | apply Kd.V_drewN | apply Kd.V_drew)); exact HO255.out) hb)
           have n2_ := Aside0.mk (blk_below (g := gb246) (o := .cells #[.slice A0_0 l0_0.length c0_0, .int .i64 a0_1, .slice A0_2 l0_2.length c0_2, .bool a0_3, .int .i64 a0_4, .int .i64 a0_5] 26 (0, 0)) (qk_ BK246.out) hb)
           have n3_ := Aside0.mk (blk_below (g := gb259) (o := .cells #[.slice Ao22 t249.length co22, .int .i64 t252, .slice Ao25 t253.length co25, .bool t256, .int .i64 t257, .int .i64 t258] 30 (0, 0)) (qk_ BK259.out) hb)
           have n4_ := Aside0.mk (below_step (qb_ HB.out) hb)
           clear HO251
           clear HO255
           clear BK246
           clear BK259
           clear HB
           have HO251 := n0_
           have HO255 := n1_
           have BK246 := n2_
           have BK259 := n3_
           have HB := n4_
           clear n0_ n1_ n2_ n3_ n4_
           (try clear hb)
           (try clear hb2)
           (try clear hk)
           (try clear hi)
           refine hK.out _ _ ⟨(blk_cell BK246.out 0).trans rfl, (blk_cell BK246.out 1).trans rfl, (blk_cell BK246.out 2).trans rfl, (blk_cell BK246.out 3).trans rfl, (blk_cell BK246.out 4).trans rfl, (blk_cell BK246.out 5).trans rfl, (blk_cell BK259.out 0).trans rfl, (blk_cell BK259.out 1).trans rfl, (blk_cell BK259.out 2).trans rfl, (blk_cell BK259.out 3).trans rfl, (blk_cell BK259.out 4).trans rfl, (blk_cell BK259.out 5).trans rfl⟩ (fun hHeld => ?_)
           clear hK K
           refine norm_ (a' := ?_) ?_ ?_
           rotate_left
           ·show Act.put _ (some 57) _ = _
            simp only [Act.put, List.setIfInBounds_toArray, List.set_cons_zero, List.set_cons_succ, i64_w, i32_w]
            rfl
           refine one_ (i := 16) (N := some 59) #[true, true, true, true, true, true, true, true, true, true, true, true, true, true, true, true, true, false, false] rfl rfl (one_of HT_.out (by kernel_rfl)) (by decide) (fun K hK => ?_)
           refine goes_ Tryd.func15 (by kernel_rfl) rfl #[.agg #[.slice Ao22 t249.length co22, .int .i64 t252, .slice Ao25 t253.length co25, .bool t256, .int .i64 t257, .int .i64 t258], .bool true] (by rfl) rfl rfl qa_ ?_
           with_reducible refine (letterboxref15_Put.calls kj8 _ _ t249 t252 _ _ t253 t256 t257 t258 true t265 _ ?side1 ?side2 ?side3 ?side4 A33.out).mono ?_
           (case side1 => repeat (first | exact (Kd.V_reads' HO251.out).2.2 | (with_reducible refine Kd.C_alloc ?_ _) | (with_reducible refine Kd.C_drewN ?_ _) | (with_reducible refine Kd.C_drew ?_)))
           (case side2 => exact (Kd.V_reads' HO251.out).2.1)
           (case side3 => repeat (first | exact (Kd.V_reads' HO255.out).2.2 | (with_reducible refine Kd.C_alloc ?_ _) | (with_reducible refine Kd.C_drewN ?_ _) | (with_reducible refine Kd.C_drew ?_)))
           (case side4 => exact (Kd.V_reads' HO255.out).2.1)
           rintro e w41 ⟨rfl, hb⟩
           refine ⟨_, rfl, ?_⟩
           have n0_ := Aside0.mk (Kd.V_below (by (with_reducible repeat (first | apply Kd.V_alloc | apply Kd.V_drewN | apply Kd.V_drew)); exact HO251.out) hb)
           have n1_ := Aside0.mk (Kd.V_below (by (with_reducible repeat (first | apply Kd.V_alloc | apply Kd.V_drewN | apply Kd.V_drew)); exact HO255.out) hb)
           have n2_ := Aside0.mk (blk_below (g := gb246) (o := .cells #[.slice A0_0 l0_0.length c0_0, .int .i64 a0_1, .slice A0_2 l0_2.length c0_2, .bool a0_3, .int .i64 a0_4, .int .i64 a0_5] 26 (0, 0)) (qk_ BK246.out) hb)
           have n3_ := Aside0.mk (blk_below (g := gb259) (o := .cells #[.slice Ao22 t249.length co22, .int .i64 t252, .slice Ao25 t253.length co25, .bool t256, .int .i64 t257, .int .i64 t258] 30 (0, 0)) (qk_ BK259.out) hb)
           have n4_ := Aside0.mk (below_step (qb_ HB.out) hb)
           clear HO251
           clear HO255
           clear BK246
           clear BK259
           clear HB
           have HO251 := n0_
           have HO255 := n1_
           have BK246 := n2_
           have BK259 := n3_
           have HB := n4_
           clear n0_ n1_ n2_ n3_ n4_
           (try clear hb)
           (try clear hb2)
           (try clear hk)
           (try clear hi)
           refine hK.out _ _ ⟨(blk_cell BK246.out 0).trans rfl, (blk_cell BK246.out 1).trans rfl, (blk_cell BK246.out 2).trans rfl, (blk_cell BK246.out 3).trans rfl, (blk_cell BK246.out 4).trans rfl, (blk_cell BK246.out 5).trans rfl, (blk_cell BK259.out 0).trans rfl, (blk_cell BK259.out 1).trans rfl, (blk_cell BK259.out 2).trans rfl, (blk_cell BK259.out 3).trans rfl, (blk_cell BK259.out 4).trans rfl, (blk_cell BK259.out 5).trans rfl⟩ (fun hHeld => ?_)
           clear hK K
           refine norm_ (a' := ?_) ?_ ?_
           rotate_left
           ·show Act.put _ (some 59) _ = _
            simp only [Act.put, List.setIfInBounds_toArray, List.set_cons_zero, List.set_cons_succ, i64_w, i32_w]
            rfl
           refine pure_ (i := 17) (N := some 60) (v := ?_) (a' := ?_) #[true, true, true, true, true, true, true, true, true, true, true, true, true, true, true, true, true, true, false] rfl rfl (any_of HT_.out (by kernel_rfl)) (fun _ _ _ h => h) (Or.inl ⟨by rfl, ?_⟩) ?_ ?_
           rotate_left
           ·intro w'
            go_simp
            with_reducible rfl
           rotate_left
           ·simp only [Act.put, List.setIfInBounds_toArray, List.set_cons_zero, List.set_cons_succ, i64_w, i32_w]
            rfl
           refine pure_ (i := 18) (N := some 61) (v := ?_) (a' := ?_) #[true, true, true, true, true, true, true, true, true, true, true, true, true, true, true, true, true, true, true] rfl rfl (any_of HT_.out (by kernel_rfl)) (fun _ _ _ h => h) (Or.inl ⟨by rfl, ?_⟩) ?_ ?_
           rotate_left
           ·intro w'
            go_simp
            with_reducible rfl
           rotate_left
           ·simp only [Act.put, List.setIfInBounds_toArray, List.set_cons_zero, List.set_cons_succ, i64_w, i32_w]
            rfl
           refine done_ (done_of HT_.out (by kernel_rfl)) ?_
           try go_wp2
           go_meet
           case rel => exact ⟨_, ((t264.toList != t265.toList)), qr_, H', ⟨by have := HK1.out; have := HJ8.out; first | omega | exact Nat.le_refl _⟩, ⟨by (with_reducible repeat (first | apply Kd.V_alloc | apply Kd.V_drewN | apply Kd.V_drew)); exact HO251.out⟩, ⟨by (with_reducible repeat (first | apply Kd.V_alloc | apply Kd.V_drewN | apply Kd.V_drew)); exact HO255.out⟩, ⟨qk_ BK246.out⟩, ⟨qk_ BK259.out⟩, ⟨qb_ HB.out⟩⟩
          ·rw [if_neg c31] at H
           have c31b0 : (t262.toList == t263.toList) = false := beq_eq_false_iff_ne.mpr c31
           have c31b1 : (t262.toList != t263.toList) = true := bne_iff_ne.mpr c31
           have H' := Aside0.mk H
           clear H
           try go_wp2
           have n0_ : Aside0 (Kd.V (Kd.int .i64) 3 ((((((w21.setCell ⟨gb259, 0, none⟩ (.slice Ao22 t249.length co22)).setCell ⟨gb259, 1, none⟩ (.int .i64 t252)).setCell ⟨gb259, 2, none⟩ (.slice Ao25 t253.length co25)).setCell ⟨gb259, 3, none⟩ (.bool t256)).setCell ⟨gb259, 4, none⟩ (.int .i64 t257)).setCell ⟨gb259, 5, none⟩ (.int .i64 t258)) w.heap.size (fun k_ => k_ ≠ gb246 ∧ k_ ≠ gb259) (.slice Ao22 t249.length co22) t249) := ⟨by (with_reducible repeat (first | apply Kd.V_alloc | apply Kd.V_drewN | apply Kd.V_drew)); exact Kd.V_mono (Kd.V_far (p := ⟨gb259, 5, none⟩) (Kd.V_far (p := ⟨gb259, 4, none⟩) (Kd.V_far (p := ⟨gb259, 3, none⟩) (Kd.V_far (p := ⟨gb259, 2, none⟩) (Kd.V_far (p := ⟨gb259, 1, none⟩) (Kd.V_far (p := ⟨gb259, 0, none⟩) (Kd.V_mono HO251.out (fun k_ hk => (⟨hk, hk.2⟩ : _ ∧ k_ ≠ gb259))) (fun _ hk => hk.2) (.slice Ao22 t249.length co22)) (fun _ hk => hk.2) (.int .i64 t252)) (fun _ hk => hk.2) (.slice Ao25 t253.length co25)) (fun _ hk => hk.2) (.bool t256)) (fun _ hk => hk.2) (.int .i64 t257)) (fun _ hk => hk.2) (.int .i64 t258)) (fun _ hk => ⟨hk.1.1, hk.1.2⟩)⟩
           have n1_ : Aside0 (Kd.V Kd.string 9 ((((((w21.setCell ⟨gb259, 0, none⟩ (.slice Ao22 t249.length co22)).setCell ⟨gb259, 1, none⟩ (.int .i64 t252)).setCell ⟨gb259, 2, none⟩ (.slice Ao25 t253.length co25)).setCell ⟨gb259, 3, none⟩ (.bool t256)).setCell ⟨gb259, 4, none⟩ (.int .i64 t257)).setCell ⟨gb259, 5, none⟩ (.int .i64 t258)) w.heap.size (fun k_ => k_ ≠ gb246 ∧ k_ ≠ gb259) (.slice Ao25 t253.length co25) t253) := ⟨by (with_reducible repeat (first | apply Kd.V_alloc | apply Kd.V_drewN | apply Kd.V_drew)); exact Kd.V_mono (Kd.V_far (p := ⟨gb259, 5, none⟩) (Kd.V_far (p := ⟨gb259, 4, none⟩) (Kd.V_far (p := ⟨gb259, 3, none⟩) (Kd.V_far (p := ⟨gb259, 2, none⟩) (Kd.V_far (p := ⟨gb259, 1, none⟩) (Kd.V_far (p := ⟨gb259, 0, none⟩) (Kd.V_mono HO255.out (fun k_ hk => (⟨hk, hk.2⟩ : _ ∧ k_ ≠ gb259))) (fun _ hk => hk.2) (.slice Ao22 t249.length co22)) (fun _ hk => hk.2) (.int .i64 t252)) (fun _ hk => hk.2) (.slice Ao25 t253.length co25)) (fun _ hk => hk.2) (.bool t256)) (fun _ hk => hk.2) (.int .i64 t257)) (fun _ hk => hk.2) (.int .i64 t258)) (fun _ hk => ⟨hk.1.1, hk.1.2⟩)⟩
           have n2_ : Aside0 (((((((w21.setCell ⟨gb259, 0, none⟩ (.slice Ao22 t249.length co22)).setCell ⟨gb259, 1, none⟩ (.int .i64 t252)).setCell ⟨gb259, 2, none⟩ (.slice Ao25 t253.length co25)).setCell ⟨gb259, 3, none⟩ (.bool t256)).setCell ⟨gb259, 4, none⟩ (.int .i64 t257)).setCell ⟨gb259, 5, none⟩ (.int .i64 t258)).heap[gb246]? = some (.cells #[.slice A0_0 l0_0.length c0_0, .int .i64 a0_1, .slice A0_2 l0_2.length c0_2, .bool a0_3, .int .i64 a0_4, .int .i64 a0_5] 26 (0, 0))) := ⟨by (with_reducible repeat (first | refine blk_drewN ?_ _ | refine blk_drew ?_ | refine blk_alloc ?_ _)); refine blk_far ?_ NB246_259.out _; (with_reducible repeat (first | refine blk_drewN ?_ _ | refine blk_drew ?_ | refine blk_alloc ?_ _)); refine blk_far ?_ NB246_259.out _; (with_reducible repeat (first | refine blk_drewN ?_ _ | refine blk_drew ?_ | refine blk_alloc ?_ _)); refine blk_far ?_ NB246_259.out _; (with_reducible repeat (first | refine blk_drewN ?_ _ | refine blk_drew ?_ | refine blk_alloc ?_ _)); refine blk_far ?_ NB246_259.out _; (with_reducible repeat (first | refine blk_drewN ?_ _ | refine blk_drew ?_ | refine blk_alloc ?_ _)); refine blk_far ?_ NB246_259.out _; (with_reducible repeat (first | refine blk_drewN ?_ _ | refine blk_drew ?_ | refine blk_alloc ?_ _)); refine blk_far ?_ NB246_259.out _; (with_reducible repeat (first | refine blk_drewN ?_ _ | refine blk_drew ?_ | refine blk_alloc ?_ _)); exact BK246.out⟩
           have n3_ : Aside0 (((((((w21.setCell ⟨gb259, 0, none⟩ (.slice Ao22 t249.length co22)).setCell ⟨gb259, 1, none⟩ (.int .i64 t252)).setCell ⟨gb259, 2, none⟩ (.slice Ao25 t253.length co25)).setCell ⟨gb259, 3, none⟩ (.bool t256)).setCell ⟨gb259, 4, none⟩ (.int .i64 t257)).setCell ⟨gb259, 5, none⟩ (.int .i64 t258)).heap[gb259]? = some (.cells #[.slice Ao22 t249.length co22, .int .i64 t252, .slice Ao25 t253.length co25, .bool t256, .int .i64 t257, .int .i64 t258] 30 (0, 0))) := ⟨by (with_reducible repeat (first | refine blk_drewN ?_ _ | refine blk_drew ?_ | refine blk_alloc ?_ _)); refine blk_put (cs := #[.slice Ao22 t249.length co22, .int .i64 t252, .slice Ao25 t253.length co25, .bool t256, .int .i64 t257, .int .i64 0]) ?_ 5 _ rfl; (with_reducible repeat (first | refine blk_drewN ?_ _ | refine blk_drew ?_ | refine blk_alloc ?_ _)); refine blk_put (cs := #[.slice Ao22 t249.length co22, .int .i64 t252, .slice Ao25 t253.length co25, .bool t256, .int .i64 0, .int .i64 0]) ?_ 4 _ rfl; (with_reducible repeat (first | refine blk_drewN ?_ _ | refine blk_drew ?_ | refine blk_alloc ?_ _)); refine blk_put (cs := #[.slice Ao22 t249.length co22, .int .i64 t252, .slice Ao25 t253.length co25, .bool false, .int .i64 0, .int .i64 0]) ?_ 3 _ rfl; (with_reducible repeat (first | refine blk_drewN ?_ _ | refine blk_drew ?_ | refine blk_alloc ?_ _)); refine blk_put (cs := #[.slice Ao22 t249.length co22, .int .i64 t252, .slice none 0 0, .bool false, .int .i64 0, .int .i64 0]) ?_ 2 _ rfl; (with_reducible repeat (first | refine blk_drewN ?_ _ | refine blk_drew ?_ | refine blk_alloc ?_ _)); refine blk_put (cs := #[.slice Ao22 t249.length co22, .int .i64 0, .slice none 0 0, .bool false, .int .i64 0, .int .i64 0]) ?_ 1 _ rfl; (with_reducible repeat (first | refine blk_drewN ?_ _ | refine blk_drew ?_ | refine blk_alloc ?_ _)); refine blk_put (cs := #[.slice none 0 0, .int .i64 0, .slice none 0 0, .bool false, .int .i64 0, .int .i64 0]) ?_ 0 _ rfl; (with_reducible repeat (first | refine blk_drewN ?_ _ | refine blk_drew ?_ | refine blk_alloc ?_ _)); exact BK259.out⟩
           have n4_ : Aside0 (Below w.heap.size w ((((((w21.setCell ⟨gb259, 0, none⟩ (.slice Ao22 t249.length co22)).setCell ⟨gb259, 1, none⟩ (.int .i64 t252)).setCell ⟨gb259, 2, none⟩ (.slice Ao25 t253.length co25)).setCell ⟨gb259, 3, none⟩ (.bool t256)).setCell ⟨gb259, 4, none⟩ (.int .i64 t257)).setCell ⟨gb259, 5, none⟩ (.int .i64 t258))) := ⟨qb_ HB.out⟩
           (try clear HO251)
           (try clear HO255)
           (try clear BK246)
           (try clear BK259)
           (try clear HB)
           generalize ((((((w21.setCell ⟨gb259, 0, none⟩ (.slice Ao22 t249.length co22)).setCell ⟨gb259, 1, none⟩ (.int .i64 t252)).setCell ⟨gb259, 2, none⟩ (.slice Ao25 t253.length co25)).setCell ⟨gb259, 3, none⟩ (.bool t256)).setCell ⟨gb259, 4, none⟩ (.int .i64 t257)).setCell ⟨gb259, 5, none⟩ (.int .i64 t258)) = w42 at n0_ n1_ n2_ n3_ n4_ ⊢
           have HO251 := n0_
           have HO255 := n1_
           have BK246 := n2_
           have BK259 := n3_
           have HB := n4_
           clear n0_ n1_ n2_ n3_ n4_
           have n0_ := Aside0.mk (Kd.V_drew HO251.out)
           have n1_ := Aside0.mk (Kd.V_drew HO255.out)
           have n2_ := Aside0.mk (blk_drew BK246.out)
           have n3_ := Aside0.mk (blk_drew BK259.out)
           have n4_ := Aside0.mk (below_drew1 HB.out)
           clear HO251
           clear HO255
           clear BK246
           clear BK259
           clear HB
           have HO251 := n0_
           have HO255 := n1_
           have BK246 := n2_
           have BK259 := n3_
           have HB := n4_
           clear n0_ n1_ n2_ n3_ n4_
           refine start_ (n := 19) (S := fun w' => w'.cell? ⟨gb246, 0, none⟩ = some (.slice A0_0 l0_0.length c0_0) ∧ w'.cell? ⟨gb246, 1, none⟩ = some (.int .i64 a0_1) ∧ w'.cell? ⟨gb246, 2, none⟩ = some (.slice A0_2 l0_2.length c0_2) ∧ w'.cell? ⟨gb246, 3, none⟩ = some (.bool a0_3) ∧ w'.cell? ⟨gb246, 4, none⟩ = some (.int .i64 a0_4) ∧ w'.cell? ⟨gb246, 5, none⟩ = some (.int .i64 a0_5) ∧ w'.cell? ⟨gb259, 0, none⟩ = some (.slice Ao22 t249.length co22) ∧ w'.cell? ⟨gb259, 1, none⟩ = some (.int .i64 t252) ∧ w'.cell? ⟨gb259, 2, none⟩ = some (.slice Ao25 t253.length co25) ∧ w'.cell? ⟨gb259, 3, none⟩ = some (.bool t256) ∧ w'.cell? ⟨gb259, 4, none⟩ = some (.int .i64 t257) ∧ w'.cell? ⟨gb259, 5, none⟩ = some (.int .i64 t258)) (ds := []) #[false, false, false, false, false, false, false, false, false, false, false, false, false, false, false, false, false, false, false] (by kernel_rfl) rfl rfl ⟨(blk_cell BK246.out 0).trans rfl, (blk_cell BK246.out 1).trans rfl, (blk_cell BK246.out 2).trans rfl, (blk_cell BK246.out 3).trans rfl, (blk_cell BK246.out 4).trans rfl, (blk_cell BK246.out 5).trans rfl, (blk_cell BK259.out 0).trans rfl, (blk_cell BK259.out 1).trans rfl, (blk_cell BK259.out 2).trans rfl, (blk_cell BK259.out 3).trans rfl, (blk_cell BK259.out 4).trans rfl, (blk_cell BK259.out 5).trans rfl⟩ (fun hHeld => ?_); refine with_tabW letterboxlaw15_SectionPuts.tab12 letterboxlaw15_SectionPuts.bits12 (fun HT_ HW_ => ?_)
           generalize w42.drew = w43 at HO251 HO255 BK246 BK259 HB hHeld ⊢
           refine take_ (i := 0) (N := some 43) (v := ?_) (a' := ?_) #[true, false, false, false, false, false, false, false, false, false, false, false, false, false, false, false, false, false, false] rfl rfl (take_ofW HT_.out HW_.out (by kernel_rfl)) (fun _ _ _ h => h) (Or.inl ⟨by rfl, ?_⟩) hHeld ?_ ?_
           rotate_left
           ·rintro w' ⟨s0, s1, s2, s3, s4, s5, s6, s7, s8, s9, s10, s11⟩
            go_simp
            with_reducible rfl
           rotate_left
           ·simp only [Act.put, List.setIfInBounds_toArray, List.set_cons_zero, List.set_cons_succ, i64_w, i32_w]
            rfl
           refine take_ (i := 2) (N := some 45) (v := ?_) (a' := ?_) #[true, false, true, false, false, false, false, false, false, false, false, false, false, false, false, false, false, false, false] rfl rfl (take_ofW HT_.out HW_.out (by kernel_rfl)) (fun _ _ _ h => h) (Or.inl ⟨by rfl, ?_⟩) hHeld ?_ ?_
           rotate_left
           ·rintro w' ⟨s0, s1, s2, s3, s4, s5, s6, s7, s8, s9, s10, s11⟩
            go_simp
            with_reducible rfl
           rotate_left
           ·simp only [Act.put, List.setIfInBounds_toArray, List.set_cons_zero, List.set_cons_succ, i64_w, i32_w]
            rfl
           refine one_ (i := 1) (N := some 44) #[true, true, true, false, false, false, false, false, false, false, false, false, false, false, false, false, false, false, false] rfl rfl (one_of HT_.out (by kernel_rfl)) (by decide) (fun K hK => ?_)
           refine goes_ Tryd.func12 (by kernel_rfl) rfl #[.agg #[.slice A0_0 l0_0.length c0_0, .int .i64 a0_1, .slice A0_2 l0_2.length c0_2, .bool a0_3, .int .i64 a0_4, .int .i64 a0_5]] (by rfl) rfl rfl qa_ ?_
           with_reducible refine (section_Check.calls kj8 _ _ l0_0 a0_1 _ _ l0_2 a0_3 a0_4 a0_5 t260 _ ?side1 ?side2 ?side3 ?side4 A26.out).mono ?_
           (case side1 => repeat (first | exact (Kd.C_below HR0_0.out HB.out) | (with_reducible refine Kd.C_alloc ?_ _) | (with_reducible refine Kd.C_drewN ?_ _) | (with_reducible refine Kd.C_drew ?_)))
           (case side2 => exact HC0_0.out)
           (case side3 => repeat (first | exact (Kd.C_below HR0_2.out HB.out) | (with_reducible refine Kd.C_alloc ?_ _) | (with_reducible refine Kd.C_drewN ?_ _) | (with_reducible refine Kd.C_drew ?_)))
           (case side4 => exact HC0_2.out)
           rintro e w44 ⟨rfl, hb⟩
           refine ⟨_, rfl, ?_⟩
           have n0_ := Aside0.mk (Kd.V_below (by (with_reducible repeat (first | apply Kd.V_alloc | apply Kd.V_drewN | apply Kd.V_drew)); exact HO251.out) hb)
           have n1_ := Aside0.mk (Kd.V_below (by (with_reducible repeat (first | apply Kd.V_alloc | apply Kd.V_drewN | apply Kd.V_drew)); exact HO255.out) hb)
           have n2_ := Aside0.mk (blk_below (g := gb246) (o := .cells #[.slice A0_0 l0_0.length c0_0, .int .i64 a0_1, .slice A0_2 l0_2.length c0_2, .bool a0_3, .int .i64 a0_4, .int .i64 a0_5] 26 (0, 0)) (qk_ BK246.out) hb)
           have n3_ := Aside0.mk (blk_below (g := gb259) (o := .cells #[.slice Ao22 t249.length co22, .int .i64 t252, .slice Ao25 t253.length co25, .bool t256, .int .i64 t257, .int .i64 t258] 30 (0, 0)) (qk_ BK259.out) hb)
           have n4_ := Aside0.mk (below_step (qb_ HB.out) hb)
           clear HO251
           clear HO255
           clear BK246
           clear BK259
           clear HB
           have HO251 := n0_
           have HO255 := n1_
           have BK246 := n2_
           have BK259 := n3_
           have HB := n4_
           clear n0_ n1_ n2_ n3_ n4_
           (try clear hb)
           (try clear hb2)
           (try clear hk)
           (try clear hi)
           refine hK.out _ _ ⟨(blk_cell BK246.out 0).trans rfl, (blk_cell BK246.out 1).trans rfl, (blk_cell BK246.out 2).trans rfl, (blk_cell BK246.out 3).trans rfl, (blk_cell BK246.out 4).trans rfl, (blk_cell BK246.out 5).trans rfl, (blk_cell BK259.out 0).trans rfl, (blk_cell BK259.out 1).trans rfl, (blk_cell BK259.out 2).trans rfl, (blk_cell BK259.out 3).trans rfl, (blk_cell BK259.out 4).trans rfl, (blk_cell BK259.out 5).trans rfl⟩ (fun hHeld => ?_)
           clear hK K
           refine norm_ (a' := ?_) ?_ ?_
           rotate_left
           ·show Act.put _ (some 44) _ = _
            simp only [Act.put, List.setIfInBounds_toArray, List.set_cons_zero, List.set_cons_succ, i64_w, i32_w]
            rfl
           refine one_ (i := 3) (N := some 46) #[true, true, true, true, false, false, false, false, false, false, false, false, false, false, false, false, false, false, false] rfl rfl (one_of HT_.out (by kernel_rfl)) (by decide) (fun K hK => ?_)
           refine goes_ Tryd.func13 (by kernel_rfl) rfl #[.agg #[.slice Ao22 t249.length co22, .int .i64 t252, .slice Ao25 t253.length co25, .bool t256, .int .i64 t257, .int .i64 t258]] (by rfl) rfl rfl qa_ ?_
           with_reducible refine (letterboxref15_Check.calls kj8 _ _ t249 t252 _ _ t253 t256 t257 t258 t261 _ ?side1 ?side2 ?side3 ?side4 A27.out).mono ?_
           (case side1 => repeat (first | exact (Kd.V_reads' HO251.out).2.2 | (with_reducible refine Kd.C_alloc ?_ _) | (with_reducible refine Kd.C_drewN ?_ _) | (with_reducible refine Kd.C_drew ?_)))
           (case side2 => exact (Kd.V_reads' HO251.out).2.1)
           (case side3 => repeat (first | exact (Kd.V_reads' HO255.out).2.2 | (with_reducible refine Kd.C_alloc ?_ _) | (with_reducible refine Kd.C_drewN ?_ _) | (with_reducible refine Kd.C_drew ?_)))
           (case side4 => exact (Kd.V_reads' HO255.out).2.1)
           rintro e w45 ⟨rfl, hb⟩
           refine ⟨_, rfl, ?_⟩
           have n0_ := Aside0.mk (Kd.V_below (by (with_reducible repeat (first | apply Kd.V_alloc | apply Kd.V_drewN | apply Kd.V_drew)); exact HO251.out) hb)
           have n1_ := Aside0.mk (Kd.V_below (by (with_reducible repeat (first | apply Kd.V_alloc | apply Kd.V_drewN | apply Kd.V_drew)); exact HO255.out) hb)
           have n2_ := Aside0.mk (blk_below (g := gb246) (o := .cells #[.slice A0_0 l0_0.length c0_0, .int .i64 a0_1, .slice A0_2 l0_2.length c0_2, .bool a0_3, .int .i64 a0_4, .int .i64 a0_5] 26 (0, 0)) (qk_ BK246.out) hb)
           have n3_ := Aside0.mk (blk_below (g := gb259) (o := .cells #[.slice Ao22 t249.length co22, .int .i64 t252, .slice Ao25 t253.length co25, .bool t256, .int .i64 t257, .int .i64 t258] 30 (0, 0)) (qk_ BK259.out) hb)
           have n4_ := Aside0.mk (below_step (qb_ HB.out) hb)
           clear HO251
           clear HO255
           clear BK246
           clear BK259
           clear HB
           have HO251 := n0_
           have HO255 := n1_
           have BK246 := n2_
           have BK259 := n3_
           have HB := n4_
           clear n0_ n1_ n2_ n3_ n4_
           (try clear hb)
           (try clear hb2)
           (try clear hk)
           (try clear hi)
           refine hK.out _ _ ⟨(blk_cell BK246.out 0).trans rfl, (blk_cell BK246.out 1).trans rfl, (blk_cell BK246.out 2).trans rfl, (blk_cell BK246.out 3).trans rfl, (blk_cell BK246.out 4).trans rfl, (blk_cell BK246.out 5).trans rfl, (blk_cell BK259.out 0).trans rfl, (blk_cell BK259.out 1).trans rfl, (blk_cell BK259.out 2).trans rfl, (blk_cell BK259.out 3).trans rfl, (blk_cell BK259.out 4).trans rfl, (blk_cell BK259.out 5).trans rfl⟩ (fun hHeld => ?_)
           clear hK K
           refine norm_ (a' := ?_) ?_ ?_
           rotate_left
           ·show Act.put _ (some 46) _ = _
            simp only [Act.put, List.setIfInBounds_toArray, List.set_cons_zero, List.set_cons_succ, i64_w, i32_w]
            rfl
           refine pure_ (i := 4) (N := some 47) (v := ?_) (a' := ?_) #[true, true, true, true, true, false, false, false, false, false, false, false, false, false, false, false, false, false, false] rfl rfl (any_of HT_.out (by kernel_rfl)) (fun _ _ _ h => h) (Or.inl ⟨by rfl, ?_⟩) ?_ ?_
           rotate_left
           ·intro w'
            go_simp
            with_reducible rfl
           rotate_left
           ·simp only [Act.put, List.setIfInBounds_toArray, List.set_cons_zero, List.set_cons_succ, i64_w, i32_w]
            rfl
           refine pure_ (i := 5) (N := some 48) (v := ?_) (a' := ?_) #[true, true, true, true, true, true, false, false, false, false, false, false, false, false, false, false, false, false, false] rfl rfl (any_of HT_.out (by kernel_rfl)) (fun _ _ _ h => h) (Or.inl ⟨by rfl, ?_⟩) ?_ ?_
           rotate_left
           ·intro w'
            go_simp
            with_reducible rfl
           rotate_left
           ·simp only [Act.put, List.setIfInBounds_toArray, List.set_cons_zero, List.set_cons_succ, i64_w, i32_w]
            rfl
           refine take_ (i := 6) (N := some 49) (v := ?_) (a' := ?_) #[true, true, true, true, true, true, true, false, false, false, false, false, false, false, false, false, false, false, false] rfl rfl (take_ofW HT_.out HW_.out (by kernel_rfl)) (fun _ _ _ h => h) (Or.inl ⟨by rfl, ?_⟩) hHeld ?_ ?_
           rotate_left
           ·rintro w' ⟨s0, s1, s2, s3, s4, s5, s6, s7, s8, s9, s10, s11⟩
            go_simp
            with_reducible rfl
           rotate_left
           ·simp only [Act.put, List.setIfInBounds_toArray, List.set_cons_zero, List.set_cons_succ, i64_w, i32_w]
            rfl
           refine take_ (i := 8) (N := some 51) (v := ?_) (a' := ?_) #[true, true, true, true, true, true, true, false, true, false, false, false, false, false, false, false, false, false, false] rfl rfl (take_ofW HT_.out HW_.out (by kernel_rfl)) (fun _ _ _ h => h) (Or.inl ⟨by rfl, ?_⟩) hHeld ?_ ?_
           rotate_left
           ·rintro w' ⟨s0, s1, s2, s3, s4, s5, s6, s7, s8, s9, s10, s11⟩
            go_simp
            with_reducible rfl
           rotate_left
           ·simp only [Act.put, List.setIfInBounds_toArray, List.set_cons_zero, List.set_cons_succ, i64_w, i32_w]
            rfl
           refine one_ (i := 7) (N := some 50) #[true, true, true, true, true, true, true, true, true, false, false, false, false, false, false, false, false, false, false] rfl rfl (one_of HT_.out (by kernel_rfl)) (by decide) (fun K hK => ?_)
           refine goes_ Tryd.func14 (by kernel_rfl) rfl #[.agg #[.slice A0_0 l0_0.length c0_0, .int .i64 a0_1, .slice A0_2 l0_2.length c0_2, .bool a0_3, .int .i64 a0_4, .int .i64 a0_5], .bool false] (by rfl) rfl rfl qa_ ?_
           with_reducible refine (section_Put.calls kj8 _ _ l0_0 a0_1 _ _ l0_2 a0_3 a0_4 a0_5 false t262 _ ?side1 ?side2 ?side3 ?side4 A29.out).mono ?_
           (case side1 => repeat (first | exact (Kd.C_below HR0_0.out HB.out) | (with_reducible refine Kd.C_alloc ?_ _) | (with_reducible refine Kd.C_drewN ?_ _) | (with_reducible refine Kd.C_drew ?_)))
           (case side2 => exact HC0_0.out)
           (case side3 => repeat (first | exact (Kd.C_below HR0_2.out HB.out) | (with_reducible refine Kd.C_alloc ?_ _) | (with_reducible refine Kd.C_drewN ?_ _) | (with_reducible refine Kd.C_drew ?_)))
           (case side4 => exact HC0_2.out)
           rintro e w46 ⟨rfl, hb⟩
           refine ⟨_, rfl, ?_⟩
           have n0_ := Aside0.mk (Kd.V_below (by (with_reducible repeat (first | apply Kd.V_alloc | apply Kd.V_drewN | apply Kd.V_drew)); exact HO251.out) hb)
           have n1_ := Aside0.mk (Kd.V_below (by (with_reducible repeat (first | apply Kd.V_alloc | apply Kd.V_drewN | apply Kd.V_drew)); exact HO255.out) hb)
           have n2_ := Aside0.mk (blk_below (g := gb246) (o := .cells #[.slice A0_0 l0_0.length c0_0, .int .i64 a0_1, .slice A0_2 l0_2.length c0_2, .bool a0_3, .int .i64 a0_4, .int .i64 a0_5] 26 (0, 0)) (qk_ BK246.out) hb)
           have n3_ := Aside0.mk (blk_below (g := gb259) (o := .cells #[.slice Ao22 t249.length co22, .int .i64 t252, .slice Ao25 t253.length co25, .bool t256, .int .i64 t257, .int .i64 t258] 30 (0, 0)) (qk_ BK259.out) hb)
           have n4_ := Aside0.mk (below_step (qb_ HB.out) hb)
           clear HO251
           clear HO255
           clear BK246
           clear BK259
           clear HB
           have HO251 := n0_
           have HO255 := n1_
           have BK246 := n2_
           have BK259 := n3_
           have HB := n4_
           clear n0_ n1_ n2_ n3_ n4_
           (try clear hb)
           (try clear hb2)
           (try clear hk)
           (try clear hi)
           refine hK.out _ _ ⟨(blk_cell BK246.out 0).trans rfl, (blk_cell BK246.out 1).trans rfl, (blk_cell BK246.out 2).trans rfl, (blk_cell BK246.out 3).trans rfl, (blk_cell BK246.out 4).trans rfl, (blk_cell BK246.out 5).trans rfl, (blk_cell BK259.out 0).trans rfl, (blk_cell BK259.out 1).trans rfl, (blk_cell BK259.out 2).trans rfl, (blk_cell BK259.out 3).trans rfl, (blk_cell BK259.out 4).trans rfl, (blk_cell BK259.out 5).trans rfl⟩ (fun hHeld => ?_)
           clear hK K
           refine norm_ (a' := ?_) ?_ ?_
           rotate_left
           ·show Act.put _ (some 50) _ = _
            simp only [Act.put, List.setIfInBounds_toArray, List.set_cons_zero, List.set_cons_succ, i64_w, i32_w]
            rfl
           refine one_ (i := 9) (N := some 52) #[true, true, true, true, true, true, true, true, true, true, false, false, false, false, false, false, false, false, false] rfl rfl (one_of HT_.out (by kernel_rfl)) (by decide) (fun K hK => ?_)
           refine goes_ Tryd.func15 (by kernel_rfl) rfl #[.agg #[.slice Ao22 t249.length co22, .int .i64 t252, .slice Ao25 t253.length co25, .bool t256, .int .i64 t257, .int .i64 t258], .bool false] (by rfl) rfl rfl qa_ ?_
           with_reducible refine (letterboxref15_Put.calls kj8 _ _ t249 t252 _ _ t253 t256 t257 t258 false t263 _ ?side1 ?side2 ?side3 ?side4 A30.out).mono ?_
           (case side1 => repeat (first | exact (Kd.V_reads' HO251.out).2.2 | (with_reducible refine Kd.C_alloc ?_ _) | (with_reducible refine Kd.C_drewN ?_ _) | (with_reducible refine Kd.C_drew ?_)))
           (case side2 => exact (Kd.V_reads' HO251.out).2.1)
           (case side3 => repeat (first | exact (Kd.V_reads' HO255.out).2.2 | (with_reducible refine Kd.C_alloc ?_ _) | (with_reducible refine Kd.C_drewN ?_ _) | (with_reducible refine Kd.C_drew ?_)))
           (case side4 => exact (Kd.V_reads' HO255.out).2.1)
           rintro e w47 ⟨rfl, hb⟩
           refine ⟨_, rfl, ?_⟩
           have n0_ := Aside0.mk (Kd.V_below (by (with_reducible repeat (first | apply Kd.V_alloc | apply Kd.V_drewN | apply Kd.V_drew)); exact HO251.out) hb)
           have n1_ := Aside0.mk (Kd.V_below (by (with_reducible repeat (first | apply Kd.V_alloc | apply Kd.V_drewN | apply Kd.V_drew)); exact HO255.out) hb)
           have n2_ := Aside0.mk (blk_below (g := gb246) (o := .cells #[.slice A0_0 l0_0.length c0_0, .int .i64 a0_1, .slice A0_2 l0_2.length c0_2, .bool a0_3, .int .i64 a0_4, .int .i64 a0_5] 26 (0, 0)) (qk_ BK246.out) hb)
           have n3_ := Aside0.mk (blk_below (g := gb259) (o := .cells #[.slice Ao22 t249.length co22, .int .i64 t252, .slice Ao25 t253.length co25, .bool t256, .int .i64 t257, .int .i64 t258] 30 (0, 0)) (qk_ BK259.out) hb)
           have n4_ := Aside0.mk (below_step (qb_ HB.out) hb)
           clear HO251
           clear HO255
           clear BK246
           clear BK259
           clear HB
           have HO251 := n0_
           have HO255 := n1_
           have BK246 := n2_
           have BK259 := n3_
           have HB := n4_
           clear n0_ n1_ n2_ n3_ n4_
           (try clear hb)
           (try clear hb2)
           (try clear hk)
           (try clear hi)
           refine hK.out _ _ ⟨(blk_cell BK246.out 0).trans rfl, (blk_cell BK246.out 1).trans rfl, (blk_cell BK246.out 2).trans rfl, (blk_cell BK246.out 3).trans rfl, (blk_cell BK246.out 4).trans rfl, (blk_cell BK246.out 5).trans rfl, (blk_cell BK259.out 0).trans rfl, (blk_cell BK259.out 1).trans rfl, (blk_cell BK259.out 2).trans rfl, (blk_cell BK259.out 3).trans rfl, (blk_cell BK259.out 4).trans rfl, (blk_cell BK259.out 5).trans rfl⟩ (fun hHeld => ?_)
           clear hK K
           refine norm_ (a' := ?_) ?_ ?_
           rotate_left
           ·show Act.put _ (some 52) _ = _
            simp only [Act.put, List.setIfInBounds_toArray, List.set_cons_zero, List.set_cons_succ, i64_w, i32_w]
            rfl
           refine pure_ (i := 10) (N := some 53) (v := ?_) (a' := ?_) #[true, true, true, true, true, true, true, true, true, true, true, false, false, false, false, false, false, false, false] rfl rfl (any_of HT_.out (by kernel_rfl)) (fun _ _ _ h => h) (Or.inl ⟨by rfl, ?_⟩) ?_ ?_
           rotate_left
           ·intro w'
            go_simp
            with_reducible rfl
           rotate_left
           ·simp only [Act.put, List.setIfInBounds_toArray, List.set_cons_zero, List.set_cons_succ, i64_w, i32_w]
            rfl
           refine pure_ (i := 11) (N := some 54) (v := ?_) (a' := ?_) #[true, true, true, true, true, true, true, true, true, true, true, true, false, false, false, false, false, false, false] rfl rfl (any_of HT_.out (by kernel_rfl)) (fun _ _ _ h => h) (Or.inl ⟨by rfl, ?_⟩) ?_ ?_
           rotate_left
           ·intro w'
            go_simp
            with_reducible rfl
           rotate_left
           ·simp only [Act.put, List.setIfInBounds_toArray, List.set_cons_zero, List.set_cons_succ, i64_w, i32_w]
            rfl
           refine pure_ (i := 12) (N := some 55) (v := ?_) (a' := ?_) #[true, true, true, true, true, true, true, true, true, true, true, true, true, false, false, false, false, false, false] rfl rfl (any_of HT_.out (by kernel_rfl)) (fun _ _ _ h => h) (Or.inl ⟨by rfl, ?_⟩) ?_ ?_
           rotate_left
           ·intro w'
            go_simp
            with_reducible rfl
           rotate_left
           ·simp only [Act.put, List.setIfInBounds_toArray, List.set_cons_zero, List.set_cons_succ, i64_w, i32_w]
            rfl
           refine pure_ (i := 13) (N := some 56) (v := undef) (a' := ?_) #[true, true, true, true, true, true, true, true, true, true, true, true, true, true, false, false, false, false, false] rfl rfl (any_of HT_.out (by kernel_rfl)) (fun _ _ _ h => h) (Or.inr ⟨by rfl, rfl⟩) ?_ ?_
           rotate_left
           ·simp only [Act.put, List.setIfInBounds_toArray, List.set_cons_zero, List.set_cons_succ, i64_w, i32_w]
            rfl
           refine pure_ (i := 14) (N := some 57) (v := undef) (a' := ?_) #[true, true, true, true, true, true, true, true, true, true, true, true, true, true, true, false, false, false, false] rfl rfl (any_of HT_.out (by kernel_rfl)) (fun _ _ _ h => h) (Or.inr ⟨by rfl, rfl⟩) ?_ ?_
           rotate_left
           ·simp only [Act.put, List.setIfInBounds_toArray, List.set_cons_zero, List.set_cons_succ, i64_w, i32_w]
            rfl
           refine pure_ (i := 15) (N := some 58) (v := undef) (a' := ?_) #[true, true, true, true, true, true, true, true, true, true, true, true, true, true, true, true, false, false, false] rfl rfl (any_of HT_.out (by kernel_rfl)) (fun _ _ _ h => h) (Or.inr ⟨by rfl, rfl⟩) ?_ ?_
           rotate_left
           ·simp only [Act.put, List.setIfInBounds_toArray, List.set_cons_zero, List.set_cons_succ, i64_w, i32_w]
            rfl
           refine pure_ (i := 16) (N := some 59) (v := undef) (a' := ?_) #[true, true, true, true, true, true, true, true, true, true, true, true, true, true, true, true, true, false, false] rfl rfl (any_of HT_.out (by kernel_rfl)) (fun _ _ _ h => h) (Or.inr ⟨by rfl, rfl⟩) ?_ ?_
           rotate_left
           ·simp only [Act.put, List.setIfInBounds_toArray, List.set_cons_zero, List.set_cons_succ, i64_w, i32_w]
            rfl
           refine pure_ (i := 17) (N := some 60) (v := undef) (a' := ?_) #[true, true, true, true, true, true, true, true, true, true, true, true, true, true, true, true, true, true, false] rfl rfl (any_of HT_.out (by kernel_rfl)) (fun _ _ _ h => h) (Or.inr ⟨by rfl, rfl⟩) ?_ ?_
           rotate_left
           ·simp only [Act.put, List.setIfInBounds_toArray, List.set_cons_zero, List.set_cons_succ, i64_w, i32_w]
            rfl
           refine pure_ (i := 18) (N := some 61) (v := ?_) (a' := ?_) #[true, true, true, true, true, true, true, true, true, true, true, true, true, true, true, true, true, true, true] rfl rfl (any_of HT_.out (by kernel_rfl)) (fun _ _ _ h => h) (Or.inl ⟨by rfl, ?_⟩) ?_ ?_
           rotate_left
           ·intro w'
            go_simp
            with_reducible rfl
           rotate_left
           ·simp only [Act.put, List.setIfInBounds_toArray, List.set_cons_zero, List.set_cons_succ, i64_w, i32_w]
            rfl
           refine done_ (done_of HT_.out (by kernel_rfl)) ?_
           try go_wp2
           go_meet
           case rel => exact ⟨_, (true), qr_, H', ⟨by have := HK1.out; have := HJ8.out; first | omega | exact Nat.le_refl _⟩, ⟨by (with_reducible repeat (first | apply Kd.V_alloc | apply Kd.V_drewN | apply Kd.V_drew)); exact HO251.out⟩, ⟨by (with_reducible repeat (first | apply Kd.V_alloc | apply Kd.V_drewN | apply Kd.V_drew)); exact HO255.out⟩, ⟨qk_ BK246.out⟩, ⟨qk_ BK259.out⟩, ⟨qb_ HB.out⟩⟩
         ·rw [if_neg c28] at H
          have c28b0 : (t260 == t261) = false := beq_eq_false_iff_ne.mpr c28
          have c28b1 : (t260 != t261) = true := bne_iff_ne.mpr c28
          (first | rw [c28b0] | (simp only [i64_w, i32_w]; rw [c28b0]) | skip)
          have H' := Aside0.mk H
          clear H
          try go_wp2
          have n0_ : Aside0 (Kd.V (Kd.int .i64) 3 ((((((w21.setCell ⟨gb259, 0, none⟩ (.slice Ao22 t249.length co22)).setCell ⟨gb259, 1, none⟩ (.int .i64 t252)).setCell ⟨gb259, 2, none⟩ (.slice Ao25 t253.length co25)).setCell ⟨gb259, 3, none⟩ (.bool t256)).setCell ⟨gb259, 4, none⟩ (.int .i64 t257)).setCell ⟨gb259, 5, none⟩ (.int .i64 t258)) w.heap.size (fun k_ => k_ ≠ gb246 ∧ k_ ≠ gb259) (.slice Ao22 t249.length co22) t249) := ⟨by (with_reducible repeat (first | apply Kd.V_alloc | apply Kd.V_drewN | apply Kd.V_drew)); exact Kd.V_mono (Kd.V_far (p := ⟨gb259, 5, none⟩) (Kd.V_far (p := ⟨gb259, 4, none⟩) (Kd.V_far (p := ⟨gb259, 3, none⟩) (Kd.V_far (p := ⟨gb259, 2, none⟩) (Kd.V_far (p := ⟨gb259, 1, none⟩) (Kd.V_far (p := ⟨gb259, 0, none⟩) (Kd.V_mono HO251.out (fun k_ hk => (⟨hk, hk.2⟩ : _ ∧ k_ ≠ gb259))) (fun _ hk => hk.2) (.slice Ao22 t249.length co22)) (fun _ hk => hk.2) (.int .i64 t252)) (fun _ hk => hk.2) (.slice Ao25 t253.length co25)) (fun _ hk => hk.2) (.bool t256)) (fun _ hk => hk.2) (.int .i64 t257)) (fun _ hk => hk.2) (.int .i64 t258)) (fun _ hk => ⟨hk.1.1, hk.1.2⟩)⟩
          have n1_ : Aside0 (Kd.V Kd.string 9 ((((((w21.setCell ⟨gb259, 0, none⟩ (.slice Ao22 t249.length co22)).setCell ⟨gb259, 1, none⟩ (.int .i64 t252)).setCell ⟨gb259, 2, none⟩ (.slice Ao25 t253.length co25)).setCell ⟨gb259, 3, none⟩ (.bool t256)).setCell ⟨gb259, 4, none⟩ (.int .i64 t257)).setCell ⟨gb259, 5, none⟩ (.int .i64 t258)) w.heap.size (fun k_ => k_ ≠ gb246 ∧ k_ ≠ gb259) (.slice Ao25 t253.length co25) t253) := ⟨by (with_reducible repeat (first | apply Kd.V_alloc | apply Kd.V_drewN | apply Kd.V_drew)); exact Kd.V_mono (Kd.V_far (p := ⟨gb259, 5, none⟩) (Kd.V_far (p := ⟨gb259, 4, none⟩) (Kd.V_far (p := ⟨gb259, 3, none⟩) (Kd.V_far (p := ⟨gb259, 2, none⟩) (Kd.V_far (p := ⟨gb259, 1, none⟩) (Kd.V_far (p := ⟨gb259, 0, none⟩) (Kd.V_mono HO255.out (fun k_ hk => (⟨hk, hk.2⟩ : _ ∧ k_ ≠ gb259))) (fun _ hk => hk.2) (.slice Ao22 t249.length co22)) (fun _ hk => hk.2) (.int .i64 t252)) (fun _ hk => hk.2) (.slice Ao25 t253.length co25)) (fun _ hk => hk.2) (.bool t256)) (fun _ hk => hk.2) (.int .i64 t257)) (fun _ hk => hk.2) (.int .i64 t258)) (fun _ hk => ⟨hk.1.1, hk.1.2⟩)⟩
          have n2_ : Aside0 (((((((w21.setCell ⟨gb259, 0, none⟩ (.slice Ao22 t249.length co22)).setCell ⟨gb259, 1, none⟩ (.int .i64 t252)).setCell ⟨gb259, 2, none⟩ (.slice Ao25 t253.length co25)).setCell ⟨gb259, 3, none⟩ (.bool t256)).setCell ⟨gb259, 4, none⟩ (.int .i64 t257)).setCell ⟨gb259, 5, none⟩ (.int .i64 t258)).heap[gb246]? = some (.cells #[.slice A0_0 l0_0.length c0_0, .int .i64 a0_1, .slice A0_2 l0_2.length c0_2, .bool a0_3, .int .i64 a0_4, .int .i64 a0_5] 26 (0, 0))) := ⟨by (with_reducible repeat (first | refine blk_drewN ?_ _ | refine blk_drew ?_ | refine blk_alloc ?_ _)); refine blk_far ?_ NB246_259.out _; (with_reducible repeat (first | refine blk_drewN ?_ _ | refine blk_drew ?_ | refine blk_alloc ?_ _)); refine blk_far ?_ NB246_259.out _; (with_reducible repeat (first | refine blk_drewN ?_ _ | refine blk_drew ?_ | refine blk_alloc ?_ _)); refine blk_far ?_ NB246_259.out _; (with_reducible repeat (first | refine blk_drewN ?_ _ | refine blk_drew ?_ | refine blk_alloc ?_ _)); refine blk_far ?_ NB246_259.out _; (with_reducible repeat (first | refine blk_drewN ?_ _ | refine blk_drew ?_ | refine blk_alloc ?_ _)); refine blk_far ?_ NB246_259.out _; (with_reducible repeat (first | refine blk_drewN ?_ _ | refine blk_drew ?_ | refine blk_alloc ?_ _)); refine blk_far ?_ NB246_259.out _; (with_reducible repeat (first | refine blk_drewN ?_ _ | refine blk_drew ?_ | refine blk_alloc ?_ _)); exact BK246.out⟩
          have n3_ : Aside0 (((((((w21.setCell ⟨gb259, 0, none⟩ (.slice Ao22 t249.length co22)).setCell ⟨gb259, 1, none⟩ (.int .i64 t252)).setCell ⟨gb259, 2, none⟩ (.slice Ao25 t253.length co25)).setCell ⟨gb259, 3, none⟩ (.bool t256)).setCell ⟨gb259, 4, none⟩ (.int .i64 t257)).setCell ⟨gb259, 5, none⟩ (.int .i64 t258)).heap[gb259]? = some (.cells #[.slice Ao22 t249.length co22, .int .i64 t252, .slice Ao25 t253.length co25, .bool t256, .int .i64 t257, .int .i64 t258] 30 (0, 0))) := ⟨by (with_reducible repeat (first | refine blk_drewN ?_ _ | refine blk_drew ?_ | refine blk_alloc ?_ _)); refine blk_put (cs := #[.slice Ao22 t249.length co22, .int .i64 t252, .slice Ao25 t253.length co25, .bool t256, .int .i64 t257, .int .i64 0]) ?_ 5 _ rfl; (with_reducible repeat (first | refine blk_drewN ?_ _ | refine blk_drew ?_ | refine blk_alloc ?_ _)); refine blk_put (cs := #[.slice Ao22 t249.length co22, .int .i64 t252, .slice Ao25 t253.length co25, .bool t256, .int .i64 0, .int .i64 0]) ?_ 4 _ rfl; (with_reducible repeat (first | refine blk_drewN ?_ _ | refine blk_drew ?_ | refine blk_alloc ?_ _)); refine blk_put (cs := #[.slice Ao22 t249.length co22, .int .i64 t252, .slice Ao25 t253.length co25, .bool false, .int .i64 0, .int .i64 0]) ?_ 3 _ rfl; (with_reducible repeat (first | refine blk_drewN ?_ _ | refine blk_drew ?_ | refine blk_alloc ?_ _)); refine blk_put (cs := #[.slice Ao22 t249.length co22, .int .i64 t252, .slice none 0 0, .bool false, .int .i64 0, .int .i64 0]) ?_ 2 _ rfl; (with_reducible repeat (first | refine blk_drewN ?_ _ | refine blk_drew ?_ | refine blk_alloc ?_ _)); refine blk_put (cs := #[.slice Ao22 t249.length co22, .int .i64 0, .slice none 0 0, .bool false, .int .i64 0, .int .i64 0]) ?_ 1 _ rfl; (with_reducible repeat (first | refine blk_drewN ?_ _ | refine blk_drew ?_ | refine blk_alloc ?_ _)); refine blk_put (cs := #[.slice none 0 0, .int .i64 0, .slice none 0 0, .bool false, .int .i64 0, .int .i64 0]) ?_ 0 _ rfl; (with_reducible repeat (first | refine blk_drewN ?_ _ | refine blk_drew ?_ | refine blk_alloc ?_ _)); exact BK259.out⟩
          have n4_ : Aside0 (Below w.heap.size w ((((((w21.setCell ⟨gb259, 0, none⟩ (.slice Ao22 t249.length co22)).setCell ⟨gb259, 1, none⟩ (.int .i64 t252)).setCell ⟨gb259, 2, none⟩ (.slice Ao25 t253.length co25)).setCell ⟨gb259, 3, none⟩ (.bool t256)).setCell ⟨gb259, 4, none⟩ (.int .i64 t257)).setCell ⟨gb259, 5, none⟩ (.int .i64 t258))) := ⟨qb_ HB.out⟩
          (try clear HO251)
          (try clear HO255)
          (try clear BK246)
          (try clear BK259)
          (try clear HB)
          generalize ((((((w21.setCell ⟨gb259, 0, none⟩ (.slice Ao22 t249.length co22)).setCell ⟨gb259, 1, none⟩ (.int .i64 t252)).setCell ⟨gb259, 2, none⟩ (.slice Ao25 t253.length co25)).setCell ⟨gb259, 3, none⟩ (.bool t256)).setCell ⟨gb259, 4, none⟩ (.int .i64 t257)).setCell ⟨gb259, 5, none⟩ (.int .i64 t258)) = w48 at n0_ n1_ n2_ n3_ n4_ ⊢
          have HO251 := n0_
          have HO255 := n1_
          have BK246 := n2_
          have BK259 := n3_
          have HB := n4_
          clear n0_ n1_ n2_ n3_ n4_
          have n0_ := Aside0.mk (Kd.V_drew HO251.out)
          have n1_ := Aside0.mk (Kd.V_drew HO255.out)
          have n2_ := Aside0.mk (blk_drew BK246.out)
          have n3_ := Aside0.mk (blk_drew BK259.out)
          have n4_ := Aside0.mk (below_drew1 HB.out)
          clear HO251
          clear HO255
          clear BK246
          clear BK259
          clear HB
          have HO251 := n0_
          have HO255 := n1_
          have BK246 := n2_
          have BK259 := n3_
          have HB := n4_
          clear n0_ n1_ n2_ n3_ n4_
          refine start_ (n := 19) (S := fun w' => w'.cell? ⟨gb246, 0, none⟩ = some (.slice A0_0 l0_0.length c0_0) ∧ w'.cell? ⟨gb246, 1, none⟩ = some (.int .i64 a0_1) ∧ w'.cell? ⟨gb246, 2, none⟩ = some (.slice A0_2 l0_2.length c0_2) ∧ w'.cell? ⟨gb246, 3, none⟩ = some (.bool a0_3) ∧ w'.cell? ⟨gb246, 4, none⟩ = some (.int .i64 a0_4) ∧ w'.cell? ⟨gb246, 5, none⟩ = some (.int .i64 a0_5) ∧ w'.cell? ⟨gb259, 0, none⟩ = some (.slice Ao22 t249.length co22) ∧ w'.cell? ⟨gb259, 1, none⟩ = some (.int .i64 t252) ∧ w'.cell? ⟨gb259, 2, none⟩ = some (.slice Ao25 t253.length co25) ∧ w'.cell? ⟨gb259, 3, none⟩ = some (.bool t256) ∧ w'.cell? ⟨gb259, 4, none⟩ = some (.int .i64 t257) ∧ w'.cell? ⟨gb259, 5, none⟩ = some (.int .i64 t258)) (ds := []) #[false, false, false, false, false, false, false, false, false, false, false, false, false, false, false, false, false, false, false] (by kernel_rfl) rfl rfl ⟨(blk_cell BK246.out 0).trans rfl, (blk_cell BK246.out 1).trans rfl, (blk_cell BK246.out 2).trans rfl, (blk_cell BK246.out 3).trans rfl, (blk_cell BK246.out 4).trans rfl, (blk_cell BK246.out 5).trans rfl, (blk_cell BK259.out 0).trans rfl, (blk_cell BK259.out 1).trans rfl, (blk_cell BK259.out 2).trans rfl, (blk_cell BK259.out 3).trans rfl, (blk_cell BK259.out 4).trans rfl, (blk_cell BK259.out 5).trans rfl⟩ (fun hHeld => ?_); refine with_tabW letterboxlaw15_SectionPuts.tab12 letterboxlaw15_SectionPuts.bits12 (fun HT_ HW_ => ?_)
          generalize w48.drew = w49 at HO251 HO255 BK246 BK259 HB hHeld ⊢
          refine take_ (i := 0) (N := some 43) (v := ?_) (a' := ?_) #[true, false, false, false, false, false, false, false, false, false, false, false, false, false, false, false, false, false, false] rfl rfl (take_ofW HT_.out HW_.out (by kernel_rfl)) (fun _ _ _ h => h) (Or.inl ⟨by rfl, ?_⟩) hHeld ?_ ?_
          rotate_left
          ·rintro w' ⟨s0, s1, s2, s3, s4, s5, s6, s7, s8, s9, s10, s11⟩
           go_simp
           with_reducible rfl
          rotate_left
          ·simp only [Act.put, List.setIfInBounds_toArray, List.set_cons_zero, List.set_cons_succ, i64_w, i32_w]
           rfl
          refine take_ (i := 2) (N := some 45) (v := ?_) (a' := ?_) #[true, false, true, false, false, false, false, false, false, false, false, false, false, false, false, false, false, false, false] rfl rfl (take_ofW HT_.out HW_.out (by kernel_rfl)) (fun _ _ _ h => h) (Or.inl ⟨by rfl, ?_⟩) hHeld ?_ ?_
          rotate_left
          ·rintro w' ⟨s0, s1, s2, s3, s4, s5, s6, s7, s8, s9, s10, s11⟩
           go_simp
           with_reducible rfl
          rotate_left
          ·simp only [Act.put, List.setIfInBounds_toArray, List.set_cons_zero, List.set_cons_succ, i64_w, i32_w]
           rfl
          refine one_ (i := 1) (N := some 44) #[true, true, true, false, false, false, false, false, false, false, false, false, false, false, false, false, false, false, false] rfl rfl (one_of HT_.out (by kernel_rfl)) (by decide) (fun K hK => ?_)
          refine goes_ Tryd.func12 (by kernel_rfl) rfl #[.agg #[.slice A0_0 l0_0.length c0_0, .int .i64 a0_1, .slice A0_2 l0_2.length c0_2, .bool a0_3, .int .i64 a0_4, .int .i64 a0_5]] (by rfl) rfl rfl qa_ ?_
          with_reducible refine (section_Check.calls kj8 _ _ l0_0 a0_1 _ _ l0_2 a0_3 a0_4 a0_5 t260 _ ?side1 ?side2 ?side3 ?side4 A26.out).mono ?_
          (case side1 => repeat (first | exact (Kd.C_below HR0_0.out HB.out) | (with_reducible refine Kd.C_alloc ?_ _) | (with_reducible refine Kd.C_drewN ?_ _) | (with_reducible refine Kd.C_drew ?_)))
          (case side2 => exact HC0_0.out)
          (case side3 => repeat (first | exact (Kd.C_below HR0_2.out HB.out) | (with_reducible refine Kd.C_alloc ?_ _) | (with_reducible refine Kd.C_drewN ?_ _) | (with_reducible refine Kd.C_drew ?_)))
          (case side4 => exact HC0_2.out)
          rintro e w50 ⟨rfl, hb⟩
          refine ⟨_, rfl, ?_⟩
          have n0_ := Aside0.mk (Kd.V_below (by (with_reducible repeat (first | apply Kd.V_alloc | apply Kd.V_drewN | apply Kd.V_drew)); exact HO251.out) hb)
          have n1_ := Aside0.mk (Kd.V_below (by (with_reducible repeat (first | apply Kd.V_alloc | apply Kd.V_drewN | apply Kd.V_drew)); exact HO255.out) hb)
          have n2_ := Aside0.mk (blk_below (g := gb246) (o := .cells #[.slice A0_0 l0_0.length c0_0, .int .i64 a0_1, .slice A0_2 l0_2.length c0_2, .bool a0_3, .int .i64 a0_4, .int .i64 a0_5] 26 (0, 0)) (qk_ BK246.out) hb)
          have n3_ := Aside0.mk (blk_below (g := gb259) (o := .cells #[.slice Ao22 t249.length co22, .int .i64 t252, .slice Ao25 t253.length co25, .bool t256, .int .i64 t257, .int .i64 t258] 30 (0, 0)) (qk_ BK259.out) hb)
          have n4_ := Aside0.mk (below_step (qb_ HB.out) hb)
          clear HO251
          clear HO255
          clear BK246
          clear BK259
          clear HB
          have HO251 := n0_
          have HO255 := n1_
          have BK246 := n2_
          have BK259 := n3_
          have HB := n4_
          clear n0_ n1_ n2_ n3_ n4_
          (try clear hb)
          (try clear hb2)
          (try clear hk)
          (try clear hi)
          refine hK.out _ _ ⟨(blk_cell BK246.out 0).trans rfl, (blk_cell BK246.out 1).trans rfl, (blk_cell BK246.out 2).trans rfl, (blk_cell BK246.out 3).trans rfl, (blk_cell BK246.out 4).trans rfl, (blk_cell BK246.out 5).trans rfl, (blk_cell BK259.out 0).trans rfl, (blk_cell BK259.out 1).trans rfl, (blk_cell BK259.out 2).trans rfl, (blk_cell BK259.out 3).trans rfl, (blk_cell BK259.out 4).trans rfl, (blk_cell BK259.out 5).trans rfl⟩ (fun hHeld => ?_)
          clear hK K
          refine norm_ (a' := ?_) ?_ ?_
          rotate_left
          ·show Act.put _ (some 44) _ = _
           simp only [Act.put, List.setIfInBounds_toArray, List.set_cons_zero, List.set_cons_succ, i64_w, i32_w]
           rfl
          refine one_ (i := 3) (N := some 46) #[true, true, true, true, false, false, false, false, false, false, false, false, false, false, false, false, false, false, false] rfl rfl (one_of HT_.out (by kernel_rfl)) (by decide) (fun K hK => ?_)
          refine goes_ Tryd.func13 (by kernel_rfl) rfl #[.agg #[.slice Ao22 t249.length co22, .int .i64 t252, .slice Ao25 t253.length co25, .bool t256, .int .i64 t257, .int .i64 t258]] (by rfl) rfl rfl qa_ ?_
          with_reducible refine (letterboxref15_Check.calls kj8 _ _ t249 t252 _ _ t253 t256 t257 t258 t261 _ ?side1 ?side2 ?side3 ?side4 A27.out).mono ?_
          (case side1 => repeat (first | exact (Kd.V_reads' HO251.out).2.2 | (with_reducible refine Kd.C_alloc ?_ _) | (with_reducible refine Kd.C_drewN ?_ _) | (with_reducible refine Kd.C_drew ?_)))
          (case side2 => exact (Kd.V_reads' HO251.out).2.1)
          (case side3 => repeat (first | exact (Kd.V_reads' HO255.out).2.2 | (with_reducible refine Kd.C_alloc ?_ _) | (with_reducible refine Kd.C_drewN ?_ _) | (with_reducible refine Kd.C_drew ?_)))
          (case side4 => exact (Kd.V_reads' HO255.out).2.1)
          rintro e w51 ⟨rfl, hb⟩
          refine ⟨_, rfl, ?_⟩
          have n0_ := Aside0.mk (Kd.V_below (by (with_reducible repeat (first | apply Kd.V_alloc | apply Kd.V_drewN | apply Kd.V_drew)); exact HO251.out) hb)
          have n1_ := Aside0.mk (Kd.V_below (by (with_reducible repeat (first | apply Kd.V_alloc | apply Kd.V_drewN | apply Kd.V_drew)); exact HO255.out) hb)
          have n2_ := Aside0.mk (blk_below (g := gb246) (o := .cells #[.slice A0_0 l0_0.length c0_0, .int .i64 a0_1, .slice A0_2 l0_2.length c0_2, .bool a0_3, .int .i64 a0_4, .int .i64 a0_5] 26 (0, 0)) (qk_ BK246.out) hb)
          have n3_ := Aside0.mk (blk_below (g := gb259) (o := .cells #[.slice Ao22 t249.length co22, .int .i64 t252, .slice Ao25 t253.length co25, .bool t256, .int .i64 t257, .int .i64 t258] 30 (0, 0)) (qk_ BK259.out) hb)
          have n4_ := Aside0.mk (below_step (qb_ HB.out) hb)
          clear HO251
          clear HO255
          clear BK246
          clear BK259
          clear HB
          have HO251 := n0_
          have HO255 := n1_
          have BK246 := n2_
          have BK259 := n3_
          have HB := n4_
          clear n0_ n1_ n2_ n3_ n4_
          (try clear hb)
          (try clear hb2)
          (try clear hk)
          (try clear hi)
          refine hK.out _ _ ⟨(blk_cell BK246.out 0).trans rfl, (blk_cell BK246.out 1).trans rfl, (blk_cell BK246.out 2).trans rfl, (blk_cell BK246.out 3).trans rfl, (blk_cell BK246.out 4).trans rfl, (blk_cell BK246.out 5).trans rfl, (blk_cell BK259.out 0).trans rfl, (blk_cell BK259.out 1).trans rfl, (blk_cell BK259.out 2).trans rfl, (blk_cell BK259.out 3).trans rfl, (blk_cell BK259.out 4).trans rfl, (blk_cell BK259.out 5).trans rfl⟩ (fun hHeld => ?_)
          clear hK K
          refine norm_ (a' := ?_) ?_ ?_
          rotate_left
          ·show Act.put _ (some 46) _ = _
           simp only [Act.put, List.setIfInBounds_toArray, List.set_cons_zero, List.set_cons_succ, i64_w, i32_w]
           rfl
          refine pure_ (i := 4) (N := some 47) (v := ?_) (a' := ?_) #[true, true, true, true, true, false, false, false, false, false, false, false, false, false, false, false, false, false, false] rfl rfl (any_of HT_.out (by kernel_rfl)) (fun _ _ _ h => h) (Or.inl ⟨by rfl, ?_⟩) ?_ ?_
          rotate_left
          ·intro w'
           go_simp
           with_reducible rfl
          rotate_left
          ·simp only [Act.put, List.setIfInBounds_toArray, List.set_cons_zero, List.set_cons_succ, i64_w, i32_w]
           rfl
          refine pure_ (i := 5) (N := some 48) (v := ?_) (a' := ?_) #[true, true, true, true, true, true, false, false, false, false, false, false, false, false, false, false, false, false, false] rfl rfl (any_of HT_.out (by kernel_rfl)) (fun _ _ _ h => h) (Or.inl ⟨by rfl, ?_⟩) ?_ ?_
          rotate_left
          ·intro w'
           go_simp
           with_reducible rfl
          rotate_left
          ·simp only [Act.put, List.setIfInBounds_toArray, List.set_cons_zero, List.set_cons_succ, i64_w, i32_w]
           rfl
          refine pure_ (i := 6) (N := some 49) (v := undef) (a' := ?_) #[true, true, true, true, true, true, true, false, false, false, false, false, false, false, false, false, false, false, false] rfl rfl (any_of HT_.out (by kernel_rfl)) (fun _ _ _ h => h) (Or.inr ⟨by rfl, rfl⟩) ?_ ?_
          rotate_left
          ·simp only [Act.put, List.setIfInBounds_toArray, List.set_cons_zero, List.set_cons_succ, i64_w, i32_w]
           rfl
          refine pure_ (i := 7) (N := some 50) (v := undef) (a' := ?_) #[true, true, true, true, true, true, true, true, false, false, false, false, false, false, false, false, false, false, false] rfl rfl (any_of HT_.out (by kernel_rfl)) (fun _ _ _ h => h) (Or.inr ⟨by rfl, rfl⟩) ?_ ?_
          rotate_left
          ·simp only [Act.put, List.setIfInBounds_toArray, List.set_cons_zero, List.set_cons_succ, i64_w, i32_w]
           rfl
          refine pure_ (i := 8) (N := some 51) (v := undef) (a' := ?_) #[true, true, true, true, true, true, true, true, true, false, false, false, false, false, false, false, false, false, false] rfl rfl (any_of HT_.out (by kernel_rfl)) (fun _ _ _ h => h) (Or.inr ⟨by rfl, rfl⟩) ?_ ?_
          rotate_left
          ·simp only [Act.put, List.setIfInBounds_toArray, List.set_cons_zero, List.set_cons_succ, i64_w, i32_w]
           rfl
          refine pure_ (i := 9) (N := some 52) (v := undef) (a' := ?_) #[true, true, true, true, true, true, true, true, true, true, false, false, false, false, false, false, false, false, false] rfl rfl (any_of HT_.out (by kernel_rfl)) (fun _ _ _ h => h) (Or.inr ⟨by rfl, rfl⟩) ?_ ?_
          rotate_left
          ·simp only [Act.put, List.setIfInBounds_toArray, List.set_cons_zero, List.set_cons_succ, i64_w, i32_w]
           rfl
          refine pure_ (i := 10) (N := some 53) (v := undef) (a' := ?_) #[true, true, true, true, true, true, true, true, true, true, true, false, false, false, false, false, false, false, false] rfl rfl (any_of HT_.out (by kernel_rfl)) (fun _ _ _ h => h) (Or.inr ⟨by rfl, rfl⟩) ?_ ?_
          rotate_left
          ·simp only [Act.put, List.setIfInBounds_toArray, List.set_cons_zero, List.set_cons_succ, i64_w, i32_w]
           rfl
          refine pure_ (i := 11) (N := some 54) (v := ?_) (a' := ?_) #[true, true, true, true, true, true, true, true, true, true, true, true, false, false, false, false, false, false, false] rfl rfl (any_of HT_.out (by kernel_rfl)) (fun _ _ _ h => h) (Or.inl ⟨by rfl, ?_⟩) ?_ ?_
          rotate_left
          ·intro w'
           go_simp
           with_reducible rfl
          rotate_left
          ·simp only [Act.put, List.setIfInBounds_toArray, List.set_cons_zero, List.set_cons_succ, i64_w, i32_w]
           rfl
          refine pure_ (i := 12) (N := some 55) (v := ?_) (a' := ?_) #[true, true, true, true, true, true, true, true, true, true, true, true, true, false, false, false, false, false, false] rfl rfl (any_of HT_.out (by kernel_rfl)) (fun _ _ _ h => h) (Or.inl ⟨by rfl, ?_⟩) ?_ ?_
          rotate_left
          ·intro w'
           go_simp
           with_reducible rfl
          rotate_left
          ·simp only [Act.put, List.setIfInBounds_toArray, List.set_cons_zero, List.set_cons_succ, i64_w, i32_w]
           rfl
          refine pure_ (i := 13) (N := some 56) (v := undef) (a' := ?_) #[true, true, true, true, true, true, true, true, true, true, true, true, true, true, false, false, false, false, false] rfl rfl (any_of HT_.out (by kernel_rfl)) (fun _ _ _ h => h) (Or.inr ⟨by rfl, rfl⟩) ?_ ?_
          rotate_left
          ·simp only [Act.put, List.setIfInBounds_toArray, List.set_cons_zero, List.set_cons_succ, i64_w, i32_w]
           rfl
          refine pure_ (i := 14) (N := some 57) (v := undef) (a' := ?_) #[true, true, true, true, true, true, true, true, true, true, true, true, true, true, true, false, false, false, false] rfl rfl (any_of HT_.out (by kernel_rfl)) (fun _ _ _ h => h) (Or.inr ⟨by rfl, rfl⟩) ?_ ?_
          rotate_left
          ·simp only [Act.put, List.setIfInBounds_toArray, List.set_cons_zero, List.set_cons_succ, i64_w, i32_w]
           rfl
          refine pure_ (i := 15) (N := some 58) (v := undef) (a' := ?_) #[true, true, true, true, true, true, true, true, true, true, true, true, true, true, true, true, false, false, false] rfl rfl (any_of HT_.out (by kernel_rfl)) (fun _ _ _ h => h) (Or.inr ⟨by rfl, rfl⟩) ?_ ?_
          rotate_left
          ·simp only [Act.put, List.setIfInBounds_toArray, List.set_cons_zero, List.set_cons_succ, i64_w, i32_w]
           rfl
          refine pure_ (i := 16) (N := some 59) (v := undef) (a' := ?_) #[true, true, true, true, true, true, true, true, true, true, true, true, true, true, true, true, true, false, false] rfl rfl (any_of HT_.out (by kernel_rfl)) (fun _ _ _ h => h) (Or.inr ⟨by rfl, rfl⟩) ?_ ?_
          rotate_left
          ·simp only [Act.put, List.setIfInBounds_toArray, List.set_cons_zero, List.set_cons_succ, i64_w, i32_w]
           rfl
          refine pure_ (i := 17) (N := some 60) (v := undef) (a' := ?_) #[true, true, true, true, true, true, true, true, true, true, true, true, true, true, true, true, true, true, false] rfl rfl (any_of HT_.out (by kernel_rfl)) (fun _ _ _ h => h) (Or.inr ⟨by rfl, rfl⟩) ?_ ?_
          rotate_left
          ·simp only [Act.put, List.setIfInBounds_toArray, List.set_cons_zero, List.set_cons_succ, i64_w, i32_w]
           rfl
          refine pure_ (i := 18) (N := some 61) (v := ?_) (a' := ?_) #[true, true, true, true, true, true, true, true, true, true, true, true, true, true, true, true, true, true, true] rfl rfl (any_of HT_.out (by kernel_rfl)) (fun _ _ _ h => h) (Or.inl ⟨by rfl, ?_⟩) ?_ ?_
          rotate_left
          ·intro w'
           go_simp
           with_reducible rfl
          rotate_left
          ·simp only [Act.put, List.setIfInBounds_toArray, List.set_cons_zero, List.set_cons_succ, i64_w, i32_w]
           rfl
          refine done_ (done_of HT_.out (by kernel_rfl)) ?_
          try go_wp2
          go_meet
          case rel => exact ⟨_, (true), qr_, H', ⟨by have := HK1.out; have := HJ8.out; first | omega | exact Nat.le_refl _⟩, ⟨by (with_reducible repeat (first | apply Kd.V_alloc | apply Kd.V_drewN | apply Kd.V_drew)); exact HO251.out⟩, ⟨by (with_reducible repeat (first | apply Kd.V_alloc | apply Kd.V_drewN | apply Kd.V_drew)); exact HO255.out⟩, ⟨qk_ BK246.out⟩, ⟨qk_ BK259.out⟩, ⟨qb_ HB.out⟩⟩
        case rest =>
         clear HC18
         obtain ⟨kq, x61_17, rfl, HA, HJ17, HO_260000, HO_260002, BK246, BK259, HB⟩ := hcut
         cases kq with
         | zero => exact absurd HA.out (by simp [letterboxlaw15_SectionPuts.j2])
         | succ kj17 =>
          have H := HA.out
          clear HA
          simp only [letterboxlaw15_SectionPuts.j2] at H
          by_cases c52 : x61_17 = true
          ·subst c52
           have H1 : (some false) = some r := by rw [if_pos rfl] at H; exact H
           clear H
           have H := H1
           clear H1
           obtain rfl := Option.some.inj H
           go_wp2
           go_ret
           exact ⟨qw_, qb_ HB.out⟩
          ·replace c52 := Bool.eq_false_iff.mpr c52
           subst c52
           have H1 : ((section_Put.f kj17 l0_0 a0_1 l0_2 a0_3 a0_4 a0_5 false).bind fun t266 => ((section_Parse.f kj17 t266).bind fun bt267 => ((section_Check.f kj17 l0_0 a0_1 l0_2 a0_3 a0_4 a0_5).bind fun t279 => (if t279 = 0 then (if bt267.2.2.2.2.2.2 = 0 then ((letterboxlaw15_specOf.f bt267.1 bt267.2.1 bt267.2.2.1 bt267.2.2.2.1 bt267.2.2.2.2.1 bt267.2.2.2.2.2.1).bind fun bt280 => ((letterboxref15_Same.f kj17 bt280.1 bt280.2.1 bt280.2.2.1 bt280.2.2.2.1 bt280.2.2.2.2.1 bt280.2.2.2.2.2 t249 t252 t253 t256 t257 t258).bind fun t290 => (some t290))) else (some false)) else (some (bt267.2.2.2.2.2.2 == 50)))))) = some r := by rw [if_neg (show ¬ (false = true) by decide)] at H; exact H
           clear H
           have H := H1
           clear H1
           replace H := Option.bind_eq_some_iff.mp H
           obtain ⟨t266, A530, H⟩ := H
           replace H : ((section_Parse.f kj17 t266).bind fun bt267 => ((section_Check.f kj17 l0_0 a0_1 l0_2 a0_3 a0_4 a0_5).bind fun t279 => (if t279 = 0 then (if bt267.2.2.2.2.2.2 = 0 then ((letterboxlaw15_specOf.f bt267.1 bt267.2.1 bt267.2.2.1 bt267.2.2.2.1 bt267.2.2.2.2.1 bt267.2.2.2.2.2.1).bind fun bt280 => ((letterboxref15_Same.f kj17 bt280.1 bt280.2.1 bt280.2.2.1 bt280.2.2.2.1 bt280.2.2.2.2.1 bt280.2.2.2.2.2 t249 t252 t253 t256 t257 t258).bind fun t290 => (some t290))) else (some false)) else (some (bt267.2.2.2.2.2.2 == 50))))) = some r := H
           have A53 := Aside0.mk A530
           clear A530
           replace H := Option.bind_eq_some_iff.mp H
           obtain ⟨⟨t267, t270, t271, t274, t275, t276, t277⟩, A540, H⟩ := H
           replace H : ((section_Check.f kj17 l0_0 a0_1 l0_2 a0_3 a0_4 a0_5).bind fun t279 => (if t279 = 0 then (if t277 = 0 then ((letterboxlaw15_specOf.f t267 t270 t271 t274 t275 t276).bind fun bt280 => ((letterboxref15_Same.f kj17 bt280.1 bt280.2.1 bt280.2.2.1 bt280.2.2.2.1 bt280.2.2.2.2.1 bt280.2.2.2.2.2 t249 t252 t253 t256 t257 t258).bind fun t290 => (some t290))) else (some false)) else (some (t277 == 50)))) = some r := H
           have A54 := Aside0.mk A540
           clear A540
           replace H := Option.bind_eq_some_iff.mp H
           obtain ⟨t279, A550, H⟩ := H
           replace H : (if t279 = 0 then (if t277 = 0 then ((letterboxlaw15_specOf.f t267 t270 t271 t274 t275 t276).bind fun bt280 => ((letterboxref15_Same.f kj17 bt280.1 bt280.2.1 bt280.2.2.1 bt280.2.2.2.1 bt280.2.2.2.2.1 bt280.2.2.2.2.2 t249 t252 t253 t256 t257 t258).bind fun t290 => (some t290))) else (some false)) else (some (t277 == 50))) = some r := H
           have A55 := Aside0.mk A550
           clear A550
           by_cases c56 : t279 = 0
           ·rw [if_pos c56] at H
            have c56b0 : (t279 == 0) = true := beq_iff_eq.mpr c56
            have c56b1 : (t279 != 0) = false := bne_eq_false_iff_eq.mpr c56
            clear c56
            by_cases c57 : t277 = 0
            ·rw [if_pos c57] at H
             have c57b0 : (t277 == 0) = true := beq_iff_eq.mpr c57
             have c57b1 : (t277 != 0) = false := bne_eq_false_iff_eq.mpr c57
             clear c57
             replace H := Option.bind_eq_some_iff.mp H
             obtain ⟨⟨t280, t283, t284, t287, t288, t289⟩, A580, H⟩ := H
             replace H : ((letterboxref15_Same.f kj17 t280 t283 t284 t287 t288 t289 t249 t252 t253 t256 t257 t258).bind fun t290 => (some t290)) = some r := H
             have A58 := Aside0.mk A580
             clear A580
             replace H := Option.bind_eq_some_iff.mp H
             obtain ⟨t290, A590, H⟩ := H
             replace H : (some t290) = some r := H
             have A59 := Aside0.mk A590
             clear A590
             obtain rfl := Option.some.inj H
             have hnb60 := NB246_259.out
             have hnc60 := NB259_246.out
             obtain ⟨hcz61_0, hcz61_1, hcz61_2, hcz61_3, hcz61_4, hcz61_5, hfz61_0, hfz61_1, hfz61_2, hfz61_3, hfz61_4, hfz61_5⟩ := cz6_ BK246.out
             try go_wp2_with (first | ((with_reducible refine gate_callee (f := 14) rfl ?_); refine goesL_ (some 64) rfl rfl Tryd.func14 (by kernel_rfl) rfl #[.agg #[.slice A0_0 l0_0.length c0_0, .int .i64 a0_1, .slice A0_2 l0_2.length c0_2, .bool a0_3, .int .i64 a0_4, .int .i64 a0_5], .bool false] rfl qa_ ?_; (with_reducible refine (section_Put.calls kj17 _ _ l0_0 a0_1 _ _ l0_2 a0_3 a0_4 a0_5 false t266 _ ?side1 ?side2 ?side3 ?side4 A53.out).mono ?_); (case side1 => repeat (first | exact (Kd.C_below HR0_0.out HB.out) | (with_reducible refine Kd.C_alloc ?_ _) | (with_reducible refine Kd.C_drewN ?_ _) | (with_reducible refine Kd.C_drew ?_))); (case side2 => exact HC0_0.out); (case side3 => repeat (first | exact (Kd.C_below HR0_2.out HB.out) | (with_reducible refine Kd.C_alloc ?_ _) | (with_reducible refine Kd.C_drewN ?_ _) | (with_reducible refine Kd.C_drew ?_))); (case side4 => exact HC0_2.out); rintro e w62 ⟨rfl, hb⟩; refine ⟨_, rfl, ?_⟩; have n0_ := Aside0.mk (Kd.V_below (by (with_reducible repeat (first | apply Kd.V_alloc | apply Kd.V_drewN | apply Kd.V_drew)); exact HO_260000.out) hb); have n1_ := Aside0.mk (Kd.V_below (by (with_reducible repeat (first | apply Kd.V_alloc | apply Kd.V_drewN | apply Kd.V_drew)); exact HO_260002.out) hb); have n2_ := Aside0.mk (blk_below (g := gb246) (o := .cells #[.slice A0_0 l0_0.length c0_0, .int .i64 a0_1, .slice A0_2 l0_2.length c0_2, .bool a0_3, .int .i64 a0_4, .int .i64 a0_5] 26 (0, 0)) (qk_ BK246.out) hb); have n3_ := Aside0.mk (blk_below (g := gb259) (o := .cells #[.slice Ao22 t249.length co22, .int .i64 t252, .slice Ao25 t253.length co25, .bool t256, .int .i64 t257, .int .i64 t258] 30 (0, 0)) (qk_ BK259.out) hb); have n4_ := Aside0.mk (below_step (qb_ HB.out) hb); clear HO_260000; clear HO_260002; clear BK246; clear BK259; clear HB; have HO_260000 := n0_; have HO_260002 := n1_; have BK246 := n2_; have BK259 := n3_; have HB := n4_; clear n0_ n1_ n2_ n3_ n4_; (try clear hb); (try clear hb2); (try clear hk); (try clear hi)) | ((with_reducible refine gate_callee (f := 8) rfl ?_); refine goesL_ (some 65) rfl rfl Tryd.func8 (by kernel_rfl) rfl #[.string t266] rfl qa_ ?_; (with_reducible refine (section_Parse.calls kj17 t266 t267 t270 t271 t274 t275 t276 t277 _ A54.out).mono ?_); rintro e w63 ⟨v268, v272, rfl, ho0, ho1, hb⟩; refine ⟨_, rfl, ?_⟩; have n0_ := Aside0.mk (Kd.V_mono (Kd.V_told (Kd.V_told (Kd.V_old (by (with_reducible repeat (first | apply Kd.V_alloc | apply Kd.V_drewN | apply Kd.V_drew)); exact HO_260000.out) hb) (Kd.R_base ho0)) (Kd.R_base ho1)) (fun _ h_ => h_.1)); have n1_ := Aside0.mk (Kd.V_mono (Kd.V_told (Kd.V_told (Kd.V_old (by (with_reducible repeat (first | apply Kd.V_alloc | apply Kd.V_drewN | apply Kd.V_drew)); exact HO_260002.out) hb) (Kd.R_base ho0)) (Kd.R_base ho1)) (fun _ h_ => h_.1)); have n2_ := Aside0.mk (Kd.R_lower ho0 (below_size (qb_ HB.out))); have n3_ := Aside0.mk (Kd.R_lower ho1 (below_size (qb_ HB.out))); have n4_ := Aside0.mk (blk_below (g := gb246) (o := .cells #[.slice A0_0 l0_0.length c0_0, .int .i64 a0_1, .slice A0_2 l0_2.length c0_2, .bool a0_3, .int .i64 a0_4, .int .i64 a0_5] 26 (0, 0)) (qk_ BK246.out) hb); have n5_ := Aside0.mk (blk_below (g := gb259) (o := .cells #[.slice Ao22 t249.length co22, .int .i64 t252, .slice Ao25 t253.length co25, .bool t256, .int .i64 t257, .int .i64 t258] 30 (0, 0)) (qk_ BK259.out) hb); have n6_ := Aside0.mk (below_step (qb_ HB.out) hb); clear HO_260000; clear HO_260002; clear BK246; clear BK259; clear HB; have HO_260000 := n0_; have HO_260002 := n1_; have HO269 := n2_; have HO273 := n3_; have BK246 := n4_; have BK259 := n5_; have HB := n6_; clear n0_ n1_ n2_ n3_ n4_ n5_ n6_; (try clear hb); (try clear hb2); (try clear hk); (try clear hi); (try clear ho0); (try clear ho1)) | ((with_reducible refine gate_dst (N := 7) rfl ?_); (try (refine gate_guard (by rfl) ?_; dsimp only)); refine box_event ?hg (N := 7) ?hd (cs := #[.slice none 0 0, .int .i64 0, .slice none 0 0, .bool false, .int .i64 0, .int .i64 0]) (t := 26) ?hr ?_; (case hd => rfl); (case hg => rfl); (case hr => first | (go_simp; done) | (go_simp; rfl)); intro gb278 hg w64 hbox hb; have n0_ := Aside0.mk (Kd.V_below (Kd.V_elderB (by (with_reducible repeat (first | apply Kd.V_alloc | apply Kd.V_drewN | apply Kd.V_drew)); exact HO_260000.out) gb278 (Nat.le_of_eq hg.symm)) hb); have n1_ := Aside0.mk (Kd.V_below (Kd.V_elderB (by (with_reducible repeat (first | apply Kd.V_alloc | apply Kd.V_drewN | apply Kd.V_drew)); exact HO_260002.out) gb278 (Nat.le_of_eq hg.symm)) hb); have n2_ := Aside0.mk (Kd.R_below (ql_ HO269.out) hb); have n3_ := Aside0.mk (Kd.R_below (ql_ HO273.out) hb); have n4_ := Aside0.mk (blk_below (g := gb246) (o := .cells #[.slice A0_0 l0_0.length c0_0, .int .i64 a0_1, .slice A0_2 l0_2.length c0_2, .bool a0_3, .int .i64 a0_4, .int .i64 a0_5] 26 (0, 0)) (qk_ BK246.out) hb); have n5_ := Aside0.mk (blk_below (g := gb259) (o := .cells #[.slice Ao22 t249.length co22, .int .i64 t252, .slice Ao25 t253.length co25, .bool t256, .int .i64 t257, .int .i64 t258] 30 (0, 0)) (qk_ BK259.out) hb); have n6_ := Aside0.mk (below_step (qb_ HB.out) hb); have n7_ := Aside0.mk (hbox); have n8_ := Aside0.mk ((by rw [hg]; exact (below_size (qb_ HB.out)) : w.heap.size ≤ gb278)); have n9_ := Aside0.mk ((by rw [hg]; exact (below_size (qb_ HB.out)) : w.heap.size ≤ gb278)); have n10_ := Aside0.mk ((by rw [hg]; exact Nat.ne_of_lt (blk_lt (g := gb246) (o := .cells #[.slice A0_0 l0_0.length c0_0, .int .i64 a0_1, .slice A0_2 l0_2.length c0_2, .bool a0_3, .int .i64 a0_4, .int .i64 a0_5] 26 (0, 0)) (qk_ BK246.out)) : gb246 ≠ gb278)); have n11_ := Aside0.mk ((by rw [hg]; exact Nat.ne_of_gt (blk_lt (g := gb246) (o := .cells #[.slice A0_0 l0_0.length c0_0, .int .i64 a0_1, .slice A0_2 l0_2.length c0_2, .bool a0_3, .int .i64 a0_4, .int .i64 a0_5] 26 (0, 0)) (qk_ BK246.out)) : gb278 ≠ gb246)); have n12_ := Aside0.mk ((by rw [hg]; exact Nat.ne_of_lt (blk_lt (g := gb259) (o := .cells #[.slice Ao22 t249.length co22, .int .i64 t252, .slice Ao25 t253.length co25, .bool t256, .int .i64 t257, .int .i64 t258] 30 (0, 0)) (qk_ BK259.out)) : gb259 ≠ gb278)); have n13_ := Aside0.mk ((by rw [hg]; exact Nat.ne_of_gt (blk_lt (g := gb259) (o := .cells #[.slice Ao22 t249.length co22, .int .i64 t252, .slice Ao25 t253.length co25, .bool t256, .int .i64 t257, .int .i64 t258] 30 (0, 0)) (qk_ BK259.out)) : gb278 ≠ gb259)); clear HO_260000; clear HO_260002; clear HO269; clear HO273; clear BK246; clear BK259; clear HB; have HO_260000 := n0_; have HO_260002 := n1_; have HO269 := n2_; have HO273 := n3_; have BK246 := n4_; have BK259 := n5_; have HB := n6_; have BK278 := n7_; have GW278 := n8_; have GE278 := n9_; have NB246_278 := n10_; have NB278_246 := n11_; have NB259_278 := n12_; have NB278_259 := n13_; clear n0_ n1_ n2_ n3_ n4_ n5_ n6_ n7_ n8_ n9_ n10_ n11_ n12_ n13_; clear hb hbox hg; obtain ⟨Ao65, co65, eo65⟩ := Kd.R_slice HO269.out; subst eo65; have hnb66 := NB278_246.out; have hnc66 := NB246_278.out; have hnb67 := NB278_259.out; have hnc67 := NB259_278.out; have hcz68_0 : w64.cell? ⟨gb278, 0, none⟩ = some (.slice none 0 0) := (blk_cell BK278.out 0).trans rfl; have hcz68_1 : w64.cell? ⟨gb278, 1, none⟩ = some (.int .i64 0) := (blk_cell BK278.out 1).trans rfl; have hcz68_2 : w64.cell? ⟨gb278, 2, none⟩ = some (.slice none 0 0) := (blk_cell BK278.out 2).trans rfl; have hcz68_3 : w64.cell? ⟨gb278, 3, none⟩ = some (.bool false) := (blk_cell BK278.out 3).trans rfl; have hcz68_4 : w64.cell? ⟨gb278, 4, none⟩ = some (.int .i64 0) := (blk_cell BK278.out 4).trans rfl; have hcz68_5 : w64.cell? ⟨gb278, 5, none⟩ = some (.int .i64 0) := (blk_cell BK278.out 5).trans rfl; have hfz68_0 := blk_frozen BK278.out 0; have hfz68_1 := blk_frozen BK278.out 1; have hfz68_2 := blk_frozen BK278.out 2; have hfz68_3 := blk_frozen BK278.out 3; have hfz68_4 := blk_frozen BK278.out 4; have hfz68_5 := blk_frozen BK278.out 5; obtain ⟨Ao69, co69, eo69⟩ := Kd.R_slice HO273.out; subst eo69; have hcz70_0 : w64.cell? ⟨gb246, 0, none⟩ = some (.slice A0_0 l0_0.length c0_0) := (blk_cell BK246.out 0).trans rfl; have hcz70_1 : w64.cell? ⟨gb246, 1, none⟩ = some (.int .i64 a0_1) := (blk_cell BK246.out 1).trans rfl; have hcz70_2 : w64.cell? ⟨gb246, 2, none⟩ = some (.slice A0_2 l0_2.length c0_2) := (blk_cell BK246.out 2).trans rfl; have hcz70_3 : w64.cell? ⟨gb246, 3, none⟩ = some (.bool a0_3) := (blk_cell BK246.out 3).trans rfl; have hcz70_4 : w64.cell? ⟨gb246, 4, none⟩ = some (.int .i64 a0_4) := (blk_cell BK246.out 4).trans rfl; have hcz70_5 : w64.cell? ⟨gb246, 5, none⟩ = some (.int .i64 a0_5) := (blk_cell BK246.out 5).trans rfl; have hfz70_0 := blk_frozen BK246.out 0; have hfz70_1 := blk_frozen BK246.out 1; have hfz70_2 := blk_frozen BK246.out 2; have hfz70_3 := blk_frozen BK246.out 3; have hfz70_4 := blk_frozen BK246.out 4; have hfz70_5 := blk_frozen BK246.out 5) | ((with_reducible refine gate_callee (f := 12) rfl ?_); refine goesL_ (some 69) rfl rfl Tryd.func12 (by kernel_rfl) rfl #[.agg #[.slice A0_0 l0_0.length c0_0, .int .i64 a0_1, .slice A0_2 l0_2.length c0_2, .bool a0_3, .int .i64 a0_4, .int .i64 a0_5]] rfl qa_ ?_; (with_reducible refine (section_Check.calls kj17 _ _ l0_0 a0_1 _ _ l0_2 a0_3 a0_4 a0_5 t279 _ ?side1 ?side2 ?side3 ?side4 A55.out).mono ?_); (case side1 => exact Kd.C_below HR0_0.out (qb_ HB.out)); (case side2 => exact HC0_0.out); (case side3 => exact Kd.C_below HR0_2.out (qb_ HB.out)); (case side4 => exact HC0_2.out); rintro e w71 ⟨rfl, hb⟩; refine ⟨_, rfl, ?_⟩; have n0_ := Aside0.mk (Kd.V_below (by (with_reducible repeat (first | apply Kd.V_alloc | apply Kd.V_drewN | apply Kd.V_drew)); exact (Kd.V_mono (Kd.V_far (p := ⟨gb278, 5, none⟩) (Kd.V_far (p := ⟨gb278, 4, none⟩) (Kd.V_far (p := ⟨gb278, 3, none⟩) (Kd.V_far (p := ⟨gb278, 2, none⟩) (Kd.V_far (p := ⟨gb278, 1, none⟩) (Kd.V_far (p := ⟨gb278, 0, none⟩) (Kd.V_mono HO_260000.out (fun k_ hk => (⟨hk, hk.2⟩ : _ ∧ k_ ≠ gb278))) (fun _ hk => hk.2) (.slice Ao65 t267.length co65)) (fun _ hk => hk.2) (.int .i64 t270)) (fun _ hk => hk.2) (.slice Ao69 t271.length co69)) (fun _ hk => hk.2) (.bool t274)) (fun _ hk => hk.2) (.int .i64 t275)) (fun _ hk => hk.2) (.int .i64 t276)) (fun _ h_ => h_.1))) hb); have n1_ := Aside0.mk (Kd.V_below (by (with_reducible repeat (first | apply Kd.V_alloc | apply Kd.V_drewN | apply Kd.V_drew)); exact (Kd.V_mono (Kd.V_far (p := ⟨gb278, 5, none⟩) (Kd.V_far (p := ⟨gb278, 4, none⟩) (Kd.V_far (p := ⟨gb278, 3, none⟩) (Kd.V_far (p := ⟨gb278, 2, none⟩) (Kd.V_far (p := ⟨gb278, 1, none⟩) (Kd.V_far (p := ⟨gb278, 0, none⟩) (Kd.V_mono HO_260002.out (fun k_ hk => (⟨hk, hk.2⟩ : _ ∧ k_ ≠ gb278))) (fun _ hk => hk.2) (.slice Ao65 t267.length co65)) (fun _ hk => hk.2) (.int .i64 t270)) (fun _ hk => hk.2) (.slice Ao69 t271.length co69)) (fun _ hk => hk.2) (.bool t274)) (fun _ hk => hk.2) (.int .i64 t275)) (fun _ hk => hk.2) (.int .i64 t276)) (fun _ h_ => h_.1))) hb); have n2_ := Aside0.mk (Kd.R_below (by (with_reducible repeat (first | apply Kd.R_alloc | apply Kd.R_drewN | apply Kd.R_drew)); exact (Kd.R_mono (Kd.R_far (p := ⟨gb278, 5, none⟩) (Kd.R_far (p := ⟨gb278, 4, none⟩) (Kd.R_far (p := ⟨gb278, 3, none⟩) (Kd.R_far (p := ⟨gb278, 2, none⟩) (Kd.R_far (p := ⟨gb278, 1, none⟩) (Kd.R_far (p := ⟨gb278, 0, none⟩) (Kd.R_types HO269.out BK278.out (by decide)) (fun _ hk => hk.2) (.slice Ao65 t267.length co65)) (fun _ hk => hk.2) (.int .i64 t270)) (fun _ hk => hk.2) (.slice Ao69 t271.length co69)) (fun _ hk => hk.2) (.bool t274)) (fun _ hk => hk.2) (.int .i64 t275)) (fun _ hk => hk.2) (.int .i64 t276)) (fun _ h_ => h_.1))) hb); have n3_ := Aside0.mk (Kd.R_below (by (with_reducible repeat (first | apply Kd.R_alloc | apply Kd.R_drewN | apply Kd.R_drew)); exact (Kd.R_mono (Kd.R_far (p := ⟨gb278, 5, none⟩) (Kd.R_far (p := ⟨gb278, 4, none⟩) (Kd.R_far (p := ⟨gb278, 3, none⟩) (Kd.R_far (p := ⟨gb278, 2, none⟩) (Kd.R_far (p := ⟨gb278, 1, none⟩) (Kd.R_far (p := ⟨gb278, 0, none⟩) (Kd.R_types HO273.out BK278.out (by decide)) (fun _ hk => hk.2) (.slice Ao65 t267.length co65)) (fun _ hk => hk.2) (.int .i64 t270)) (fun _ hk => hk.2) (.slice Ao69 t271.length co69)) (fun _ hk => hk.2) (.bool t274)) (fun _ hk => hk.2) (.int .i64 t275)) (fun _ hk => hk.2) (.int .i64 t276)) (fun _ h_ => h_.1))) hb); have n4_ := Aside0.mk (blk_below (g := gb246) (o := .cells #[.slice A0_0 l0_0.length c0_0, .int .i64 a0_1, .slice A0_2 l0_2.length c0_2, .bool a0_3, .int .i64 a0_4, .int .i64 a0_5] 26 (0, 0)) (by (with_reducible repeat (first | refine blk_drewN ?_ _ | refine blk_drew ?_ | refine blk_alloc ?_ _)); refine blk_far ?_ NB246_278.out _; (with_reducible repeat (first | refine blk_drewN ?_ _ | refine blk_drew ?_ | refine blk_alloc ?_ _)); refine blk_far ?_ NB246_278.out _; (with_reducible repeat (first | refine blk_drewN ?_ _ | refine blk_drew ?_ | refine blk_alloc ?_ _)); refine blk_far ?_ NB246_278.out _; (with_reducible repeat (first | refine blk_drewN ?_ _ | refine blk_drew ?_ | refine blk_alloc ?_ _)); refine blk_far ?_ NB246_278.out _; (with_reducible repeat (first | refine blk_drewN ?_ _ | refine blk_drew ?_ | refine blk_alloc ?_ _)); refine blk_far ?_ NB246_278.out _; (with_reducible repeat (first | refine blk_drewN ?_ _ | refine blk_drew ?_ | refine blk_alloc ?_ _)); refine blk_far ?_ NB246_278.out _; (with_reducible repeat (first | refine blk_drewN ?_ _ | refine blk_drew ?_ | refine blk_alloc ?_ _)); exact BK246.out) hb); have n5_ := Aside0.mk (blk_below (g := gb259) (o := .cells #[.slice Ao22 t249.length co22, .int .i64 t252, .slice Ao25 t253.length co25, .bool t256, .int .i64 t257, .int .i64 t258] 30 (0, 0)) (by (with_reducible repeat (first | refine blk_drewN ?_ _ | refine blk_drew ?_ | refine blk_alloc ?_ _)); refine blk_far ?_ NB259_278.out _; (with_reducible repeat (first | refine blk_drewN ?_ _ | refine blk_drew ?_ | refine blk_alloc ?_ _)); refine blk_far ?_ NB259_278.out _; (with_reducible repeat (first | refine blk_drewN ?_ _ | refine blk_drew ?_ | refine blk_alloc ?_ _)); refine blk_far ?_ NB259_278.out _; (with_reducible repeat (first | refine blk_drewN ?_ _ | refine blk_drew ?_ | refine blk_alloc ?_ _)); refine blk_far ?_ NB259_278.out _; (with_reducible repeat (first | refine blk_drewN ?_ _ | refine blk_drew ?_ | refine blk_alloc ?_ _)); refine blk_far ?_ NB259_278.out _; (with_reducible repeat (first | refine blk_drewN ?_ _ | refine blk_drew ?_ | refine blk_alloc ?_ _)); refine blk_far ?_ NB259_278.out _; (with_reducible repeat (first | refine blk_drewN ?_ _ | refine blk_drew ?_ | refine blk_alloc ?_ _)); exact BK259.out) hb); have n6_ := Aside0.mk (blk_below (g := gb278) (o := .cells #[.slice Ao65 t267.length co65, .int .i64 t270, .slice Ao69 t271.length co69, .bool t274, .int .i64 t275, .int .i64 t276] 26 (0, 0)) (qs6_ (qk_ BK278.out)) hb); have n7_ := Aside0.mk (below_step (qb_ HB.out) hb); clear HO_260000; clear HO_260002; clear HO269; clear HO273; clear BK246; clear BK259; clear BK278; clear HB; have HO_260000 := n0_; have HO_260002 := n1_; have HO269 := n2_; have HO273 := n3_; have BK246 := n4_; have BK259 := n5_; have BK278 := n6_; have HB := n7_; clear n0_ n1_ n2_ n3_ n4_ n5_ n6_ n7_; (try clear hb); (try clear hb2); (try clear hk); (try clear hi)))
             have n0_ := Aside0.mk (Kd.V_drew HO_260000.out)
             have n1_ := Aside0.mk (Kd.V_drew HO_260002.out)
             have n2_ := Aside0.mk (Kd.R_drew HO269.out)
             have n3_ := Aside0.mk (Kd.R_drew HO273.out)
             have n4_ := Aside0.mk (blk_drew BK246.out)
             have n5_ := Aside0.mk (blk_drew BK259.out)
             have n6_ := Aside0.mk (blk_drew BK278.out)
             have n7_ := Aside0.mk (below_drew1 HB.out)
             clear HO_260000
             clear HO_260002
             clear HO269
             clear HO273
             clear BK246
             clear BK259
             clear BK278
             clear HB
             have HO_260000 := n0_
             have HO_260002 := n1_
             have HO269 := n2_
             have HO273 := n3_
             have BK246 := n4_
             have BK259 := n5_
             have BK278 := n6_
             have HB := n7_
             clear n0_ n1_ n2_ n3_ n4_ n5_ n6_ n7_
             refine start_ (n := 9) (S := fun w' => w'.cell? ⟨gb278, 0, none⟩ = some (.slice Ao65 t267.length co65) ∧ w'.cell? ⟨gb278, 1, none⟩ = some (.int .i64 t270) ∧ w'.cell? ⟨gb278, 2, none⟩ = some (.slice Ao69 t271.length co69) ∧ w'.cell? ⟨gb278, 3, none⟩ = some (.bool t274) ∧ w'.cell? ⟨gb278, 4, none⟩ = some (.int .i64 t275) ∧ w'.cell? ⟨gb278, 5, none⟩ = some (.int .i64 t276) ∧ w'.cell? ⟨gb259, 0, none⟩ = some (.slice Ao22 t249.length co22) ∧ w'.cell? ⟨gb259, 1, none⟩ = some (.int .i64 t252) ∧ w'.cell? ⟨gb259, 2, none⟩ = some (.slice Ao25 t253.length co25) ∧ w'.cell? ⟨gb259, 3, none⟩ = some (.bool t256) ∧ w'.cell? ⟨gb259, 4, none⟩ = some (.int .i64 t257) ∧ w'.cell? ⟨gb259, 5, none⟩ = some (.int .i64 t258)) (ds := []) #[false, false, false, false, false, false, false, false, false] (by kernel_rfl) rfl rfl ⟨(blk_cell BK278.out 0).trans rfl, (blk_cell BK278.out 1).trans rfl, (blk_cell BK278.out 2).trans rfl, (blk_cell BK278.out 3).trans rfl, (blk_cell BK278.out 4).trans rfl, (blk_cell BK278.out 5).trans rfl, (blk_cell BK259.out 0).trans rfl, (blk_cell BK259.out 1).trans rfl, (blk_cell BK259.out 2).trans rfl, (blk_cell BK259.out 3).trans rfl, (blk_cell BK259.out 4).trans rfl, (blk_cell BK259.out 5).trans rfl⟩ (fun hHeld => ?_); refine with_tabW letterboxlaw15_SectionPuts.tab17 letterboxlaw15_SectionPuts.bits17 (fun HT_ HW_ => ?_)
             generalize w71.drew = w72 at HO_260000 HO_260002 HO269 HO273 BK246 BK259 BK278 HB hHeld ⊢
             refine pure_ (i := 0) (N := some 73) (v := ?_) (a' := ?_) #[true, false, false, false, false, false, false, false, false] rfl rfl (any_of HT_.out (by kernel_rfl)) (fun _ _ _ h => h) (Or.inl ⟨by rfl, ?_⟩) ?_ ?_
             rotate_left
             ·intro w'
              go_simp
              with_reducible rfl
             rotate_left
             ·simp only [Act.put, List.setIfInBounds_toArray, List.set_cons_zero, List.set_cons_succ, i64_w, i32_w]
              rfl
             refine pure_ (i := 1) (N := some 74) (v := ?_) (a' := ?_) #[true, true, false, false, false, false, false, false, false] rfl rfl (any_of HT_.out (by kernel_rfl)) (fun _ _ _ h => h) (Or.inl ⟨by rfl, ?_⟩) ?_ ?_
             rotate_left
             ·intro w'
              go_simp
              with_reducible rfl
             rotate_left
             ·simp only [Act.put, List.setIfInBounds_toArray, List.set_cons_zero, List.set_cons_succ, i64_w, i32_w]
              rfl
             refine pure_ (i := 2) (N := some 75) (v := ?_) (a' := ?_) #[true, true, true, false, false, false, false, false, false] rfl rfl (any_of HT_.out (by kernel_rfl)) (fun _ _ _ h => h) (Or.inl ⟨by rfl, ?_⟩) ?_ ?_
             rotate_left
             ·intro w'
              go_simp
              with_reducible rfl
             rotate_left
             ·simp only [Act.put, List.setIfInBounds_toArray, List.set_cons_zero, List.set_cons_succ, i64_w, i32_w]
              rfl
             refine take_ (i := 3) (N := some 76) (v := ?_) (a' := ?_) #[true, true, true, true, false, false, false, false, false] rfl rfl (take_ofW HT_.out HW_.out (by kernel_rfl)) (fun _ _ _ h => h) (Or.inl ⟨by rfl, ?_⟩) hHeld ?_ ?_
             rotate_left
             ·rintro w' ⟨s0, s1, s2, s3, s4, s5, s6, s7, s8, s9, s10, s11⟩
              go_simp
              with_reducible rfl
             rotate_left
             ·simp only [Act.put, List.setIfInBounds_toArray, List.set_cons_zero, List.set_cons_succ, i64_w, i32_w]
              rfl
             refine take_ (i := 5) (N := some 78) (v := ?_) (a' := ?_) #[true, true, true, true, false, true, false, false, false] rfl rfl (take_ofW HT_.out HW_.out (by kernel_rfl)) (fun _ _ _ h => h) (Or.inl ⟨by rfl, ?_⟩) hHeld ?_ ?_
             rotate_left
             ·rintro w' ⟨s0, s1, s2, s3, s4, s5, s6, s7, s8, s9, s10, s11⟩
              go_simp
              with_reducible rfl
             rotate_left
             ·simp only [Act.put, List.setIfInBounds_toArray, List.set_cons_zero, List.set_cons_succ, i64_w, i32_w]
              rfl
             refine one_ (i := 4) (N := some 77) #[true, true, true, true, true, true, false, false, false] rfl rfl (one_of HT_.out (by kernel_rfl)) (by decide) (fun K hK => ?_)
             refine goes_ Tryd.func11 (by kernel_rfl) rfl #[.agg #[.slice Ao65 t267.length co65, .int .i64 t270, .slice Ao69 t271.length co69, .bool t274, .int .i64 t275, .int .i64 t276]] (by rfl) rfl rfl qa_ ?_
             with_reducible refine (letterboxlaw15_specOf.calls (fun k_ => some k_ = (.slice Ao65 t267.length co65 : Value).ownBlock) _ _ t267 t270 (fun k_ => some k_ = (.slice Ao69 t271.length co69 : Value).ownBlock) _ _ t271 t274 t275 t276 t280 t283 t284 t287 t288 t289 _ ?side1 ?side2 A58.out).mono ?_
             (case side1 => exact Kd.R_V (Kd.R_tight rfl (Kd.R_types (Kd.R_types (Kd.R_types (Kd.R_apart' (HO269.out) (Kd.R_typed HO273.out) (by decide)) BK246.out (by decide)) BK259.out (by decide)) BK278.out (by decide))))
             (case side2 => exact Kd.R_V (Kd.R_tight rfl (Kd.R_types (Kd.R_types (Kd.R_types (Kd.R_apart' (HO273.out) (Kd.R_typed HO269.out) (by decide)) BK246.out (by decide)) BK259.out (by decide)) BK278.out (by decide))))
             rintro e w73 ⟨v281, v285, rfl, ho0, ho1, hb⟩
             refine ⟨_, rfl, ?_⟩
             have n0_ := Aside0.mk (Kd.V_below (by (with_reducible repeat (first | apply Kd.V_alloc | apply Kd.V_drewN | apply Kd.V_drew)); exact HO_260000.out) hb)
             have n1_ := Aside0.mk (Kd.V_below (by (with_reducible repeat (first | apply Kd.V_alloc | apply Kd.V_drewN | apply Kd.V_drew)); exact HO_260002.out) hb)
             have n2_ := Aside0.mk (Kd.R_below (ql_ HO269.out) hb)
             have n3_ := Aside0.mk (Kd.R_below (ql_ HO273.out) hb)
             have n4_ := Aside0.mk (Kd.V_lower (Kd.V_mono (ok' := fun k_ => k_ ≠ gb246 ∧ k_ ≠ gb259 ∧ k_ ≠ gb278) ho0 (fun k_ hk_ => ⟨Or.elim hk_ (fun hs_ => Or.elim hs_ (fun hs_ => ((Kd.R_types (Kd.R_types (Kd.R_types (Kd.R_apart' (HO269.out) (Kd.R_typed HO273.out) (by decide)) BK246.out (by decide)) BK259.out (by decide)) BK278.out (by decide)).1 k_ hs_.symm).1.1.2) (fun hs_ => ((Kd.R_types (Kd.R_types (Kd.R_types (Kd.R_apart' (HO273.out) (Kd.R_typed HO269.out) (by decide)) BK246.out (by decide)) BK259.out (by decide)) BK278.out (by decide)).1 k_ hs_.symm).1.1.2)) (fun hn_ => (Kd.freshB (g := gb246) (o := .cells #[.slice A0_0 l0_0.length c0_0, .int .i64 a0_1, .slice A0_2 l0_2.length c0_2, .bool a0_3, .int .i64 a0_4, .int .i64 a0_5] 26 (0, 0)) (qk_ BK246.out) k_ hn_)), Or.elim hk_ (fun hs_ => Or.elim hs_ (fun hs_ => ((Kd.R_types (Kd.R_types (Kd.R_types (Kd.R_apart' (HO269.out) (Kd.R_typed HO273.out) (by decide)) BK246.out (by decide)) BK259.out (by decide)) BK278.out (by decide)).1 k_ hs_.symm).1.2) (fun hs_ => ((Kd.R_types (Kd.R_types (Kd.R_types (Kd.R_apart' (HO273.out) (Kd.R_typed HO269.out) (by decide)) BK246.out (by decide)) BK259.out (by decide)) BK278.out (by decide)).1 k_ hs_.symm).1.2)) (fun hn_ => (Kd.freshB (g := gb259) (o := .cells #[.slice Ao22 t249.length co22, .int .i64 t252, .slice Ao25 t253.length co25, .bool t256, .int .i64 t257, .int .i64 t258] 30 (0, 0)) (qk_ BK259.out) k_ hn_)), Or.elim hk_ (fun hs_ => Or.elim hs_ (fun hs_ => ((Kd.R_types (Kd.R_types (Kd.R_types (Kd.R_apart' (HO269.out) (Kd.R_typed HO273.out) (by decide)) BK246.out (by decide)) BK259.out (by decide)) BK278.out (by decide)).1 k_ hs_.symm).2) (fun hs_ => ((Kd.R_types (Kd.R_types (Kd.R_types (Kd.R_apart' (HO273.out) (Kd.R_typed HO269.out) (by decide)) BK246.out (by decide)) BK259.out (by decide)) BK278.out (by decide)).1 k_ hs_.symm).2)) (fun hn_ => (Kd.freshB (g := gb278) (o := .cells #[.slice Ao65 t267.length co65, .int .i64 t270, .slice Ao69 t271.length co69, .bool t274, .int .i64 t275, .int .i64 t276] 26 (0, 0)) (qk_ BK278.out) k_ hn_))⟩)) (below_size (qb_ HB.out)))
             have n5_ := Aside0.mk (Kd.V_lower (Kd.V_mono (ok' := fun k_ => k_ ≠ gb246 ∧ k_ ≠ gb259 ∧ k_ ≠ gb278) ho1 (fun k_ hk_ => ⟨Or.elim hk_ (fun hs_ => Or.elim hs_ (fun hs_ => ((Kd.R_types (Kd.R_types (Kd.R_types (Kd.R_apart' (HO269.out) (Kd.R_typed HO273.out) (by decide)) BK246.out (by decide)) BK259.out (by decide)) BK278.out (by decide)).1 k_ hs_.symm).1.1.2) (fun hs_ => ((Kd.R_types (Kd.R_types (Kd.R_types (Kd.R_apart' (HO273.out) (Kd.R_typed HO269.out) (by decide)) BK246.out (by decide)) BK259.out (by decide)) BK278.out (by decide)).1 k_ hs_.symm).1.1.2)) (fun hn_ => (Kd.freshB (g := gb246) (o := .cells #[.slice A0_0 l0_0.length c0_0, .int .i64 a0_1, .slice A0_2 l0_2.length c0_2, .bool a0_3, .int .i64 a0_4, .int .i64 a0_5] 26 (0, 0)) (qk_ BK246.out) k_ hn_)), Or.elim hk_ (fun hs_ => Or.elim hs_ (fun hs_ => ((Kd.R_types (Kd.R_types (Kd.R_types (Kd.R_apart' (HO269.out) (Kd.R_typed HO273.out) (by decide)) BK246.out (by decide)) BK259.out (by decide)) BK278.out (by decide)).1 k_ hs_.symm).1.2) (fun hs_ => ((Kd.R_types (Kd.R_types (Kd.R_types (Kd.R_apart' (HO273.out) (Kd.R_typed HO269.out) (by decide)) BK246.out (by decide)) BK259.out (by decide)) BK278.out (by decide)).1 k_ hs_.symm).1.2)) (fun hn_ => (Kd.freshB (g := gb259) (o := .cells #[.slice Ao22 t249.length co22, .int .i64 t252, .slice Ao25 t253.length co25, .bool t256, .int .i64 t257, .int .i64 t258] 30 (0, 0)) (qk_ BK259.out) k_ hn_)), Or.elim hk_ (fun hs_ => Or.elim hs_ (fun hs_ => ((Kd.R_types (Kd.R_types (Kd.R_types (Kd.R_apart' (HO269.out) (Kd.R_typed HO273.out) (by decide)) BK246.out (by decide)) BK259.out (by decide)) BK278.out (by decide)).1 k_ hs_.symm).2) (fun hs_ => ((Kd.R_types (Kd.R_types (Kd.R_types (Kd.R_apart' (HO273.out) (Kd.R_typed HO269.out) (by decide)) BK246.out (by decide)) BK259.out (by decide)) BK278.out (by decide)).1 k_ hs_.symm).2)) (fun hn_ => (Kd.freshB (g := gb278) (o := .cells #[.slice Ao65 t267.length co65, .int .i64 t270, .slice Ao69 t271.length co69, .bool t274, .int .i64 t275, .int .i64 t276] 26 (0, 0)) (qk_ BK278.out) k_ hn_))⟩)) (below_size (qb_ HB.out)))
             have n6_ := Aside0.mk (blk_below (g := gb246) (o := .cells #[.slice A0_0 l0_0.length c0_0, .int .i64 a0_1, .slice A0_2 l0_2.length c0_2, .bool a0_3, .int .i64 a0_4, .int .i64 a0_5] 26 (0, 0)) (qk_ BK246.out) hb)
             have n7_ := Aside0.mk (blk_below (g := gb259) (o := .cells #[.slice Ao22 t249.length co22, .int .i64 t252, .slice Ao25 t253.length co25, .bool t256, .int .i64 t257, .int .i64 t258] 30 (0, 0)) (qk_ BK259.out) hb)
             have n8_ := Aside0.mk (blk_below (g := gb278) (o := .cells #[.slice Ao65 t267.length co65, .int .i64 t270, .slice Ao69 t271.length co69, .bool t274, .int .i64 t275, .int .i64 t276] 26 (0, 0)) (qk_ BK278.out) hb)
             have n9_ := Aside0.mk (below_step (qb_ HB.out) hb)
             clear HO_260000
             clear HO_260002
             clear HO269
             clear HO273
             clear BK246
             clear BK259
             clear BK278
             clear HB
             have HO_260000 := n0_
             have HO_260002 := n1_
             have HO269 := n2_
             have HO273 := n3_
             have HO282 := n4_
             have HO286 := n5_
             have BK246 := n6_
             have BK259 := n7_
             have BK278 := n8_
             have HB := n9_
             clear n0_ n1_ n2_ n3_ n4_ n5_ n6_ n7_ n8_ n9_
             (try clear hb)
             (try clear hb2)
             (try clear hk)
             (try clear hi)
             (try clear ho0)
             (try clear ho1)
             obtain ⟨Ao74, co74, eo74⟩ := Kd.V_slice HO282.out
             (first | subst eo74 | (injection eo74 with f1_ f2_ f3_; have f4_ := f1_.symm; have f5_ := f3_.symm; clear f1_ f2_ f3_; subst f4_; subst f5_))
             obtain ⟨Ao75, co75, eo75⟩ := Kd.V_slice HO286.out
             (first | subst eo75 | (injection eo75 with f1_ f2_ f3_; have f4_ := f1_.symm; have f5_ := f3_.symm; clear f1_ f2_ f3_; subst f4_; subst f5_))
             refine hK.out _ _ ⟨(blk_cell BK278.out 0).trans rfl, (blk_cell BK278.out 1).trans rfl, (blk_cell BK278.out 2).trans rfl, (blk_cell BK278.out 3).trans rfl, (blk_cell BK278.out 4).trans rfl, (blk_cell BK278.out 5).trans rfl, (blk_cell BK259.out 0).trans rfl, (blk_cell BK259.out 1).trans rfl, (blk_cell BK259.out 2).trans rfl, (blk_cell BK259.out 3).trans rfl, (blk_cell BK259.out 4).trans rfl, (blk_cell BK259.out 5).trans rfl⟩ (fun hHeld => ?_)
             clear hK K
             refine norm_ (a' := ?_) ?_ ?_
             rotate_left
             ·show Act.put _ (some 77) _ = _
              simp only [Act.put, List.setIfInBounds_toArray, List.set_cons_zero, List.set_cons_succ, i64_w, i32_w]
              rfl
             refine one_ (i := 6) (N := some 79) #[true, true, true, true, true, true, true, false, false] rfl rfl (one_of HT_.out (by kernel_rfl)) (by decide) (fun K hK => ?_)
             refine goes_ Tryd.func10 (by kernel_rfl) rfl #[.agg #[.slice Ao74 t280.length co74, .int .i64 t283, .slice Ao75 t284.length co75, .bool t287, .int .i64 t288, .int .i64 t289], .agg #[.slice Ao22 t249.length co22, .int .i64 t252, .slice Ao25 t253.length co25, .bool t256, .int .i64 t257, .int .i64 t258]] (by rfl) rfl rfl qa_ ?_
             with_reducible refine (letterboxref15_Same.calls kj17 _ _ t280 t283 _ _ t284 t287 t288 t289 _ _ t249 t252 _ _ t253 t256 t257 t258 t290 _ ?side1 ?side2 ?side3 ?side4 ?side5 ?side6 ?side7 ?side8 A59.out).mono ?_
             (case side1 => repeat (first | exact (Kd.V_reads' HO282.out).2.2 | (with_reducible refine Kd.C_alloc ?_ _) | (with_reducible refine Kd.C_drewN ?_ _) | (with_reducible refine Kd.C_drew ?_)))
             (case side2 => exact (Kd.V_reads' HO282.out).2.1)
             (case side3 => repeat (first | exact (Kd.V_reads' HO286.out).2.2 | (with_reducible refine Kd.C_alloc ?_ _) | (with_reducible refine Kd.C_drewN ?_ _) | (with_reducible refine Kd.C_drew ?_)))
             (case side4 => exact (Kd.V_reads' HO286.out).2.1)
             (case side5 => repeat (first | exact (Kd.V_reads' HO_260000.out).2.2 | (with_reducible refine Kd.C_alloc ?_ _) | (with_reducible refine Kd.C_drewN ?_ _) | (with_reducible refine Kd.C_drew ?_)))
             (case side6 => exact (Kd.V_reads' HO_260000.out).2.1)
             (case side7 => repeat (first | exact (Kd.V_reads' HO_260002.out).2.2 | (with_reducible refine Kd.C_alloc ?_ _) | (with_reducible refine Kd.C_drewN ?_ _) | (with_reducible refine Kd.C_drew ?_)))
             (case side8 => exact (Kd.V_reads' HO_260002.out).2.1)
             rintro e w76 ⟨rfl, hb⟩
             refine ⟨_, rfl, ?_⟩
             have n0_ := Aside0.mk (Kd.V_below (by (with_reducible repeat (first | apply Kd.V_alloc | apply Kd.V_drewN | apply Kd.V_drew)); exact HO_260000.out) hb)
             have n1_ := Aside0.mk (Kd.V_below (by (with_reducible repeat (first | apply Kd.V_alloc | apply Kd.V_drewN | apply Kd.V_drew)); exact HO_260002.out) hb)
             have n2_ := Aside0.mk (Kd.R_below (ql_ HO269.out) hb)
             have n3_ := Aside0.mk (Kd.R_below (ql_ HO273.out) hb)
             have n4_ := Aside0.mk (Kd.V_below (by (with_reducible repeat (first | apply Kd.V_alloc | apply Kd.V_drewN | apply Kd.V_drew)); exact HO282.out) hb)
             have n5_ := Aside0.mk (Kd.V_below (by (with_reducible repeat (first | apply Kd.V_alloc | apply Kd.V_drewN | apply Kd.V_drew)); exact HO286.out) hb)
             have n6_ := Aside0.mk (blk_below (g := gb246) (o := .cells #[.slice A0_0 l0_0.length c0_0, .int .i64 a0_1, .slice A0_2 l0_2.length c0_2, .bool a0_3, .int .i64 a0_4, .int .i64 a0_5] 26 (0, 0)) (qk_ BK246.out) hb)
             have n7_ := Aside0.mk (blk_below (g := gb259) (o := .cells #[.slice Ao22 t249.length co22, .int .i64 t252, .slice Ao25 t253.length co25, .bool t256, .int .i64 t257, .int .i64 t258] 30 (0, 0)) (qk_ BK259.out) hb)
             have n8_ := Aside0.mk (blk_below (g := gb278) (o := .cells #[.slice Ao65 t267.length co65, .int .i64 t270, .slice Ao69 t271.length co69, .bool t274, .int .i64 t275, .int .i64 t276] 26 (0, 0)) (qk_ BK278.out) hb)
             have n9_ := Aside0.mk (below_step (qb_ HB.out) hb)
             clear HO_260000
             clear HO_260002
             clear HO269
             clear HO273
             clear HO282
             clear HO286
             clear BK246
             clear BK259
             clear BK278
             clear HB
             have HO_260000 := n0_
             have HO_260002 := n1_
             have HO269 := n2_
             have HO273 := n3_
             have HO282 := n4_
             have HO286 := n5_
             have BK246 := n6_
             have BK259 := n7_
             have BK278 := n8_
             have HB := n9_
             clear n0_ n1_ n2_ n3_ n4_ n5_ n6_ n7_ n8_ n9_
             (try clear hb)
             (try clear hb2)
             (try clear hk)
             (try clear hi)
             refine hK.out _ _ ⟨(blk_cell BK278.out 0).trans rfl, (blk_cell BK278.out 1).trans rfl, (blk_cell BK278.out 2).trans rfl, (blk_cell BK278.out 3).trans rfl, (blk_cell BK278.out 4).trans rfl, (blk_cell BK278.out 5).trans rfl, (blk_cell BK259.out 0).trans rfl, (blk_cell BK259.out 1).trans rfl, (blk_cell BK259.out 2).trans rfl, (blk_cell BK259.out 3).trans rfl, (blk_cell BK259.out 4).trans rfl, (blk_cell BK259.out 5).trans rfl⟩ (fun hHeld => ?_)
             clear hK K
             refine norm_ (a' := ?_) ?_ ?_
             rotate_left
             ·show Act.put _ (some 79) _ = _
              simp only [Act.put, List.setIfInBounds_toArray, List.set_cons_zero, List.set_cons_succ, i64_w, i32_w]
              rfl
             refine pure_ (i := 7) (N := some 80) (v := ?_) (a' := ?_) #[true, true, true, true, true, true, true, true, false] rfl rfl (any_of HT_.out (by kernel_rfl)) (fun _ _ _ h => h) (Or.inl ⟨by rfl, ?_⟩) ?_ ?_
             rotate_left
             ·intro w'
              go_simp
              with_reducible rfl
             rotate_left
             ·simp only [Act.put, List.setIfInBounds_toArray, List.set_cons_zero, List.set_cons_succ, i64_w, i32_w]
              rfl
             refine pure_ (i := 8) (N := some 2) (v := ?_) (a' := ?_) #[true, true, true, true, true, true, true, true, true] rfl rfl (any_of HT_.out (by kernel_rfl)) (fun _ _ _ h => h) (Or.inl ⟨by rfl, ?_⟩) ?_ ?_
             rotate_left
             ·intro w'
              go_simp
              with_reducible rfl
             rotate_left
             ·simp only [Act.put, List.setIfInBounds_toArray, List.set_cons_zero, List.set_cons_succ, i64_w, i32_w]
              rfl
             refine done_ (done_of HT_.out (by kernel_rfl)) ?_
             try go_wp2
             go_ret
             exact ⟨qw_, qb_ HB.out⟩
            ·rw [if_neg c57] at H
             have c57b0 : (t277 == 0) = false := beq_eq_false_iff_ne.mpr c57
             have c57b1 : (t277 != 0) = true := bne_iff_ne.mpr c57
             obtain rfl := Option.some.inj H
             have hnb77 := NB246_259.out
             have hnc77 := NB259_246.out
             obtain ⟨hcz78_0, hcz78_1, hcz78_2, hcz78_3, hcz78_4, hcz78_5, hfz78_0, hfz78_1, hfz78_2, hfz78_3, hfz78_4, hfz78_5⟩ := cz6_ BK246.out
             try go_wp2_with (first | ((with_reducible refine gate_callee (f := 14) rfl ?_); refine goesL_ (some 64) rfl rfl Tryd.func14 (by kernel_rfl) rfl #[.agg #[.slice A0_0 l0_0.length c0_0, .int .i64 a0_1, .slice A0_2 l0_2.length c0_2, .bool a0_3, .int .i64 a0_4, .int .i64 a0_5], .bool false] rfl qa_ ?_; (with_reducible refine (section_Put.calls kj17 _ _ l0_0 a0_1 _ _ l0_2 a0_3 a0_4 a0_5 false t266 _ ?side1 ?side2 ?side3 ?side4 A53.out).mono ?_); (case side1 => repeat (first | exact (Kd.C_below HR0_0.out HB.out) | (with_reducible refine Kd.C_alloc ?_ _) | (with_reducible refine Kd.C_drewN ?_ _) | (with_reducible refine Kd.C_drew ?_))); (case side2 => exact HC0_0.out); (case side3 => repeat (first | exact (Kd.C_below HR0_2.out HB.out) | (with_reducible refine Kd.C_alloc ?_ _) | (with_reducible refine Kd.C_drewN ?_ _) | (with_reducible refine Kd.C_drew ?_))); (case side4 => exact HC0_2.out); rintro e w79 ⟨rfl, hb⟩; refine ⟨_, rfl, ?_⟩; have n0_ := Aside0.mk (Kd.V_below (by (with_reducible repeat (first | apply Kd.V_alloc | apply Kd.V_drewN | apply Kd.V_drew)); exact HO_260000.out) hb); have n1_ := Aside0.mk (Kd.V_below (by (with_reducible repeat (first | apply Kd.V_alloc | apply Kd.V_drewN | apply Kd.V_drew)); exact HO_260002.out) hb); have n2_ := Aside0.mk (blk_below (g := gb246) (o := .cells #[.slice A0_0 l0_0.length c0_0, .int .i64 a0_1, .slice A0_2 l0_2.length c0_2, .bool a0_3, .int .i64 a0_4, .int .i64 a0_5] 26 (0, 0)) (qk_ BK246.out) hb); have n3_ := Aside0.mk (blk_below (g := gb259) (o := .cells #[.slice Ao22 t249.length co22, .int .i64 t252, .slice Ao25 t253.length co25, .bool t256, .int .i64 t257, .int .i64 t258] 30 (0, 0)) (qk_ BK259.out) hb); have n4_ := Aside0.mk (below_step (qb_ HB.out) hb); clear HO_260000; clear HO_260002; clear BK246; clear BK259; clear HB; have HO_260000 := n0_; have HO_260002 := n1_; have BK246 := n2_; have BK259 := n3_; have HB := n4_; clear n0_ n1_ n2_ n3_ n4_; (try clear hb); (try clear hb2); (try clear hk); (try clear hi)) | ((with_reducible refine gate_callee (f := 8) rfl ?_); refine goesL_ (some 65) rfl rfl Tryd.func8 (by kernel_rfl) rfl #[.string t266] rfl qa_ ?_; (with_reducible refine (section_Parse.calls kj17 t266 t267 t270 t271 t274 t275 t276 t277 _ A54.out).mono ?_); rintro e w80 ⟨v268, v272, rfl, ho0, ho1, hb⟩; refine ⟨_, rfl, ?_⟩; have n0_ := Aside0.mk (Kd.V_mono (Kd.V_told (Kd.V_told (Kd.V_old (by (with_reducible repeat (first | apply Kd.V_alloc | apply Kd.V_drewN | apply Kd.V_drew)); exact HO_260000.out) hb) (Kd.R_base ho0)) (Kd.R_base ho1)) (fun _ h_ => h_.1)); have n1_ := Aside0.mk (Kd.V_mono (Kd.V_told (Kd.V_told (Kd.V_old (by (with_reducible repeat (first | apply Kd.V_alloc | apply Kd.V_drewN | apply Kd.V_drew)); exact HO_260002.out) hb) (Kd.R_base ho0)) (Kd.R_base ho1)) (fun _ h_ => h_.1)); have n2_ := Aside0.mk (Kd.R_lower ho0 (below_size (qb_ HB.out))); have n3_ := Aside0.mk (Kd.R_lower ho1 (below_size (qb_ HB.out))); have n4_ := Aside0.mk (blk_below (g := gb246) (o := .cells #[.slice A0_0 l0_0.length c0_0, .int .i64 a0_1, .slice A0_2 l0_2.length c0_2, .bool a0_3, .int .i64 a0_4, .int .i64 a0_5] 26 (0, 0)) (qk_ BK246.out) hb); have n5_ := Aside0.mk (blk_below (g := gb259) (o := .cells #[.slice Ao22 t249.length co22, .int .i64 t252, .slice Ao25 t253.length co25, .bool t256, .int .i64 t257, .int .i64 t258] 30 (0, 0)) (qk_ BK259.out) hb); have n6_ := Aside0.mk (below_step (qb_ HB.out) hb); clear HO_260000; clear HO_260002; clear BK246; clear BK259; clear HB; have HO_260000 := n0_; have HO_260002 := n1_; have HO269 := n2_; have HO273 := n3_; have BK246 := n4_; have BK259 := n5_; have HB := n6_; clear n0_ n1_ n2_ n3_ n4_ n5_ n6_; (try clear hb); (try clear hb2); (try clear hk); (try clear hi); (try clear ho0); (try clear ho1)) | ((with_reducible refine gate_dst (N := 7) rfl ?_); (try (refine gate_guard (by rfl) ?_; dsimp only)); refine box_event ?hg (N := 7) ?hd (cs := #[.slice none 0 0, .int .i64 0, .slice none 0 0, .bool false, .int .i64 0, .int .i64 0]) (t := 26) ?hr ?_; (case hd => rfl); (case hg => rfl); (case hr => first | (go_simp; done) | (go_simp; rfl)); intro gb278 hg w81 hbox hb; have n0_ := Aside0.mk (Kd.V_below (Kd.V_elderB (by (with_reducible repeat (first | apply Kd.V_alloc | apply Kd.V_drewN | apply Kd.V_drew)); exact HO_260000.out) gb278 (Nat.le_of_eq hg.symm)) hb); have n1_ := Aside0.mk (Kd.V_below (Kd.V_elderB (by (with_reducible repeat (first | apply Kd.V_alloc | apply Kd.V_drewN | apply Kd.V_drew)); exact HO_260002.out) gb278 (Nat.le_of_eq hg.symm)) hb); have n2_ := Aside0.mk (Kd.R_below (ql_ HO269.out) hb); have n3_ := Aside0.mk (Kd.R_below (ql_ HO273.out) hb); have n4_ := Aside0.mk (blk_below (g := gb246) (o := .cells #[.slice A0_0 l0_0.length c0_0, .int .i64 a0_1, .slice A0_2 l0_2.length c0_2, .bool a0_3, .int .i64 a0_4, .int .i64 a0_5] 26 (0, 0)) (qk_ BK246.out) hb); have n5_ := Aside0.mk (blk_below (g := gb259) (o := .cells #[.slice Ao22 t249.length co22, .int .i64 t252, .slice Ao25 t253.length co25, .bool t256, .int .i64 t257, .int .i64 t258] 30 (0, 0)) (qk_ BK259.out) hb); have n6_ := Aside0.mk (below_step (qb_ HB.out) hb); have n7_ := Aside0.mk (hbox); have n8_ := Aside0.mk ((by rw [hg]; exact (below_size (qb_ HB.out)) : w.heap.size ≤ gb278)); have n9_ := Aside0.mk ((by rw [hg]; exact (below_size (qb_ HB.out)) : w.heap.size ≤ gb278)); have n10_ := Aside0.mk ((by rw [hg]; exact Nat.ne_of_lt (blk_lt (g := gb246) (o := .cells #[.slice A0_0 l0_0.length c0_0, .int .i64 a0_1, .slice A0_2 l0_2.length c0_2, .bool a0_3, .int .i64 a0_4, .int .i64 a0_5] 26 (0, 0)) (qk_ BK246.out)) : gb246 ≠ gb278)); have n11_ := Aside0.mk ((by rw [hg]; exact Nat.ne_of_gt (blk_lt (g := gb246) (o := .cells #[.slice A0_0 l0_0.length c0_0, .int .i64 a0_1, .slice A0_2 l0_2.length c0_2, .bool a0_3, .int .i64 a0_4, .int .i64 a0_5] 26 (0, 0)) (qk_ BK246.out)) : gb278 ≠ gb246)); have n12_ := Aside0.mk ((by rw [hg]; exact Nat.ne_of_lt (blk_lt (g := gb259) (o := .cells #[.slice Ao22 t249.length co22, .int .i64 t252, .slice Ao25 t253.length co25, .bool t256, .int .i64 t257, .int .i64 t258] 30 (0, 0)) (qk_ BK259.out)) : gb259 ≠ gb278)); have n13_ := Aside0.mk ((by rw [hg]; exact Nat.ne_of_gt (blk_lt (g := gb259) (o := .cells #[.slice Ao22 t249.length co22, .int .i64 t252, .slice Ao25 t253.length co25, .bool t256, .int .i64 t257, .int .i64 t258] 30 (0, 0)) (qk_ BK259.out)) : gb278 ≠ gb259)); clear HO_260000; clear HO_260002; clear HO269; clear HO273; clear BK246; clear BK259; clear HB; have HO_260000 := n0_; have HO_260002 := n1_; have HO269 := n2_; have HO273 := n3_; have BK246 := n4_; have BK259 := n5_; have HB := n6_; have BK278 := n7_; have GW278 := n8_; have GE278 := n9_; have NB246_278 := n10_; have NB278_246 := n11_; have NB259_278 := n12_; have NB278_259 := n13_; clear n0_ n1_ n2_ n3_ n4_ n5_ n6_ n7_ n8_ n9_ n10_ n11_ n12_ n13_; clear hb hbox hg; obtain ⟨Ao82, co82, eo82⟩ := Kd.R_slice HO269.out; subst eo82; have hnb83 := NB278_246.out; have hnc83 := NB246_278.out; have hnb84 := NB278_259.out; have hnc84 := NB259_278.out; have hcz85_0 : w81.cell? ⟨gb278, 0, none⟩ = some (.slice none 0 0) := (blk_cell BK278.out 0).trans rfl; have hcz85_1 : w81.cell? ⟨gb278, 1, none⟩ = some (.int .i64 0) := (blk_cell BK278.out 1).trans rfl; have hcz85_2 : w81.cell? ⟨gb278, 2, none⟩ = some (.slice none 0 0) := (blk_cell BK278.out 2).trans rfl; have hcz85_3 : w81.cell? ⟨gb278, 3, none⟩ = some (.bool false) := (blk_cell BK278.out 3).trans rfl; have hcz85_4 : w81.cell? ⟨gb278, 4, none⟩ = some (.int .i64 0) := (blk_cell BK278.out 4).trans rfl; have hcz85_5 : w81.cell? ⟨gb278, 5, none⟩ = some (.int .i64 0) := (blk_cell BK278.out 5).trans rfl; have hfz85_0 := blk_frozen BK278.out 0; have hfz85_1 := blk_frozen BK278.out 1; have hfz85_2 := blk_frozen BK278.out 2; have hfz85_3 := blk_frozen BK278.out 3; have hfz85_4 := blk_frozen BK278.out 4; have hfz85_5 := blk_frozen BK278.out 5; obtain ⟨Ao86, co86, eo86⟩ := Kd.R_slice HO273.out; subst eo86; have hcz87_0 : w81.cell? ⟨gb246, 0, none⟩ = some (.slice A0_0 l0_0.length c0_0) := (blk_cell BK246.out 0).trans rfl; have hcz87_1 : w81.cell? ⟨gb246, 1, none⟩ = some (.int .i64 a0_1) := (blk_cell BK246.out 1).trans rfl; have hcz87_2 : w81.cell? ⟨gb246, 2, none⟩ = some (.slice A0_2 l0_2.length c0_2) := (blk_cell BK246.out 2).trans rfl; have hcz87_3 : w81.cell? ⟨gb246, 3, none⟩ = some (.bool a0_3) := (blk_cell BK246.out 3).trans rfl; have hcz87_4 : w81.cell? ⟨gb246, 4, none⟩ = some (.int .i64 a0_4) := (blk_cell BK246.out 4).trans rfl; have hcz87_5 : w81.cell? ⟨gb246, 5, none⟩ = some (.int .i64 a0_5) := (blk_cell BK246.out 5).trans rfl; have hfz87_0 := blk_frozen BK246.out 0; have hfz87_1 := blk_frozen BK246.out 1; have hfz87_2 := blk_frozen BK246.out 2; have hfz87_3 := blk_frozen BK246.out 3; have hfz87_4 := blk_frozen BK246.out 4; have hfz87_5 := blk_frozen BK246.out 5) | ((with_reducible refine gate_callee (f := 12) rfl ?_); refine goesL_ (some 69) rfl rfl Tryd.func12 (by kernel_rfl) rfl #[.agg #[.slice A0_0 l0_0.length c0_0, .int .i64 a0_1, .slice A0_2 l0_2.length c0_2, .bool a0_3, .int .i64 a0_4, .int .i64 a0_5]] rfl qa_ ?_; (with_reducible refine (section_Check.calls kj17 _ _ l0_0 a0_1 _ _ l0_2 a0_3 a0_4 a0_5 t279 _ ?side1 ?side2 ?side3 ?side4 A55.out).mono ?_); (case side1 => exact Kd.C_below HR0_0.out (qb_ HB.out)); (case side2 => exact HC0_0.out); (case side3 => exact Kd.C_below HR0_2.out (qb_ HB.out)); (case side4 => exact HC0_2.out); rintro e w88 ⟨rfl, hb⟩; refine ⟨_, rfl, ?_⟩; have n0_ := Aside0.mk (Kd.V_below (by (with_reducible repeat (first | apply Kd.V_alloc | apply Kd.V_drewN | apply Kd.V_drew)); exact (Kd.V_mono (Kd.V_far (p := ⟨gb278, 5, none⟩) (Kd.V_far (p := ⟨gb278, 4, none⟩) (Kd.V_far (p := ⟨gb278, 3, none⟩) (Kd.V_far (p := ⟨gb278, 2, none⟩) (Kd.V_far (p := ⟨gb278, 1, none⟩) (Kd.V_far (p := ⟨gb278, 0, none⟩) (Kd.V_mono HO_260000.out (fun k_ hk => (⟨hk, hk.2⟩ : _ ∧ k_ ≠ gb278))) (fun _ hk => hk.2) (.slice Ao82 t267.length co82)) (fun _ hk => hk.2) (.int .i64 t270)) (fun _ hk => hk.2) (.slice Ao86 t271.length co86)) (fun _ hk => hk.2) (.bool t274)) (fun _ hk => hk.2) (.int .i64 t275)) (fun _ hk => hk.2) (.int .i64 t276)) (fun _ h_ => h_.1))) hb); have n1_ := Aside0.mk (Kd.V_below (by (with_reducible repeat (first | apply Kd.V_alloc | apply Kd.V_drewN | apply Kd.V_drew)); exact (Kd.V_mono (Kd.V_far (p := ⟨gb278, 5, none⟩) (Kd.V_far (p := ⟨gb278, 4, none⟩) (Kd.V_far (p := ⟨gb278, 3, none⟩) (Kd.V_far (p := ⟨gb278, 2, none⟩) (Kd.V_far (p := ⟨gb278, 1, none⟩) (Kd.V_far (p := ⟨gb278, 0, none⟩) (Kd.V_mono HO_260002.out (fun k_ hk => (⟨hk, hk.2⟩ : _ ∧ k_ ≠ gb278))) (fun _ hk => hk.2) (.slice Ao82 t267.length co82)) (fun _ hk => hk.2) (.int .i64 t270)) (fun _ hk => hk.2) (.slice Ao86 t271.length co86)) (fun _ hk => hk.2) (.bool t274)) (fun _ hk => hk.2) (.int .i64 t275)) (fun _ hk => hk.2) (.int .i64 t276)) (fun _ h_ => h_.1))) hb); have n2_ := Aside0.mk (Kd.R_below (by (with_reducible repeat (first | apply Kd.R_alloc | apply Kd.R_drewN | apply Kd.R_drew)); exact (Kd.R_mono (Kd.R_far (p := ⟨gb278, 5, none⟩) (Kd.R_far (p := ⟨gb278, 4, none⟩) (Kd.R_far (p := ⟨gb278, 3, none⟩) (Kd.R_far (p := ⟨gb278, 2, none⟩) (Kd.R_far (p := ⟨gb278, 1, none⟩) (Kd.R_far (p := ⟨gb278, 0, none⟩) (Kd.R_types HO269.out BK278.out (by decide)) (fun _ hk => hk.2) (.slice Ao82 t267.length co82)) (fun _ hk => hk.2) (.int .i64 t270)) (fun _ hk => hk.2) (.slice Ao86 t271.length co86)) (fun _ hk => hk.2) (.bool t274)) (fun _ hk => hk.2) (.int .i64 t275)) (fun _ hk => hk.2) (.int .i64 t276)) (fun _ h_ => h_.1))) hb); have n3_ := Aside0.mk (Kd.R_below (by (with_reducible repeat (first | apply Kd.R_alloc | apply Kd.R_drewN | apply Kd.R_drew)); exact (Kd.R_mono (Kd.R_far (p := ⟨gb278, 5, none⟩) (Kd.R_far (p := ⟨gb278, 4, none⟩) (Kd.R_far (p := ⟨gb278, 3, none⟩) (Kd.R_far (p := ⟨gb278, 2, none⟩) (Kd.R_far (p := ⟨gb278, 1, none⟩) (Kd.R_far (p := ⟨gb278, 0, none⟩) (Kd.R_types HO273.out BK278.out (by decide)) (fun _ hk => hk.2) (.slice Ao82 t267.length co82)) (fun _ hk => hk.2) (.int .i64 t270)) (fun _ hk => hk.2) (.slice Ao86 t271.length co86)) (fun _ hk => hk.2) (.bool t274)) (fun _ hk => hk.2) (.int .i64 t275)) (fun _ hk => hk.2) (.int .i64 t276)) (fun _ h_ => h_.1))) hb); have n4_ := Aside0.mk (blk_below (g := gb246) (o := .cells #[.slice A0_0 l0_0.length c0_0, .int .i64 a0_1, .slice A0_2 l0_2.length c0_2, .bool a0_3, .int .i64 a0_4, .int .i64 a0_5] 26 (0, 0)) (by (with_reducible repeat (first | refine blk_drewN ?_ _ | refine blk_drew ?_ | refine blk_alloc ?_ _)); refine blk_far ?_ NB246_278.out _; (with_reducible repeat (first | refine blk_drewN ?_ _ | refine blk_drew ?_ | refine blk_alloc ?_ _)); refine blk_far ?_ NB246_278.out _; (with_reducible repeat (first | refine blk_drewN ?_ _ | refine blk_drew ?_ | refine blk_alloc ?_ _)); refine blk_far ?_ NB246_278.out _; (with_reducible repeat (first | refine blk_drewN ?_ _ | refine blk_drew ?_ | refine blk_alloc ?_ _)); refine blk_far ?_ NB246_278.out _; (with_reducible repeat (first | refine blk_drewN ?_ _ | refine blk_drew ?_ | refine blk_alloc ?_ _)); refine blk_far ?_ NB246_278.out _; (with_reducible repeat (first | refine blk_drewN ?_ _ | refine blk_drew ?_ | refine blk_alloc ?_ _)); refine blk_far ?_ NB246_278.out _; (with_reducible repeat (first | refine blk_drewN ?_ _ | refine blk_drew ?_ | refine blk_alloc ?_ _)); exact BK246.out) hb); have n5_ := Aside0.mk (blk_below (g := gb259) (o := .cells #[.slice Ao22 t249.length co22, .int .i64 t252, .slice Ao25 t253.length co25, .bool t256, .int .i64 t257, .int .i64 t258] 30 (0, 0)) (by (with_reducible repeat (first | refine blk_drewN ?_ _ | refine blk_drew ?_ | refine blk_alloc ?_ _)); refine blk_far ?_ NB259_278.out _; (with_reducible repeat (first | refine blk_drewN ?_ _ | refine blk_drew ?_ | refine blk_alloc ?_ _)); refine blk_far ?_ NB259_278.out _; (with_reducible repeat (first | refine blk_drewN ?_ _ | refine blk_drew ?_ | refine blk_alloc ?_ _)); refine blk_far ?_ NB259_278.out _; (with_reducible repeat (first | refine blk_drewN ?_ _ | refine blk_drew ?_ | refine blk_alloc ?_ _)); refine blk_far ?_ NB259_278.out _; (with_reducible repeat (first | refine blk_drewN ?_ _ | refine blk_drew ?_ | refine blk_alloc ?_ _)); refine blk_far ?_ NB259_278.out _; (with_reducible repeat (first | refine blk_drewN ?_ _ | refine blk_drew ?_ | refine blk_alloc ?_ _)); refine blk_far ?_ NB259_278.out _; (with_reducible repeat (first | refine blk_drewN ?_ _ | refine blk_drew ?_ | refine blk_alloc ?_ _)); exact BK259.out) hb); have n6_ := Aside0.mk (blk_below (g := gb278) (o := .cells #[.slice Ao82 t267.length co82, .int .i64 t270, .slice Ao86 t271.length co86, .bool t274, .int .i64 t275, .int .i64 t276] 26 (0, 0)) (qs6_ (qk_ BK278.out)) hb); have n7_ := Aside0.mk (below_step (qb_ HB.out) hb); clear HO_260000; clear HO_260002; clear HO269; clear HO273; clear BK246; clear BK259; clear BK278; clear HB; have HO_260000 := n0_; have HO_260002 := n1_; have HO269 := n2_; have HO273 := n3_; have BK246 := n4_; have BK259 := n5_; have BK278 := n6_; have HB := n7_; clear n0_ n1_ n2_ n3_ n4_ n5_ n6_ n7_; (try clear hb); (try clear hb2); (try clear hk); (try clear hi)))
             have n0_ := Aside0.mk (Kd.V_drew HO_260000.out)
             have n1_ := Aside0.mk (Kd.V_drew HO_260002.out)
             have n2_ := Aside0.mk (Kd.R_drew HO269.out)
             have n3_ := Aside0.mk (Kd.R_drew HO273.out)
             have n4_ := Aside0.mk (blk_drew BK246.out)
             have n5_ := Aside0.mk (blk_drew BK259.out)
             have n6_ := Aside0.mk (blk_drew BK278.out)
             have n7_ := Aside0.mk (below_drew1 HB.out)
             clear HO_260000
             clear HO_260002
             clear HO269
             clear HO273
             clear BK246
             clear BK259
             clear BK278
             clear HB
             have HO_260000 := n0_
             have HO_260002 := n1_
             have HO269 := n2_
             have HO273 := n3_
             have BK246 := n4_
             have BK259 := n5_
             have BK278 := n6_
             have HB := n7_
             clear n0_ n1_ n2_ n3_ n4_ n5_ n6_ n7_
             refine start_ (n := 9) (S := fun w' => True) (ds := []) #[false, false, false, false, false, false, false, false, false] (by kernel_rfl) rfl rfl trivial (fun hHeld => ?_); refine with_tabW letterboxlaw15_SectionPuts.tab17 letterboxlaw15_SectionPuts.bits17 (fun HT_ HW_ => ?_)
             generalize w88.drew = w89 at HO_260000 HO_260002 HO269 HO273 BK246 BK259 BK278 HB hHeld ⊢
             refine pure_ (i := 0) (N := some 73) (v := ?_) (a' := ?_) #[true, false, false, false, false, false, false, false, false] rfl rfl (any_of HT_.out (by kernel_rfl)) (fun _ _ _ h => h) (Or.inl ⟨by rfl, ?_⟩) ?_ ?_
             rotate_left
             ·intro w'
              go_simp
              with_reducible rfl
             rotate_left
             ·simp only [Act.put, List.setIfInBounds_toArray, List.set_cons_zero, List.set_cons_succ, i64_w, i32_w]
              rfl
             refine pure_ (i := 1) (N := some 74) (v := ?_) (a' := ?_) #[true, true, false, false, false, false, false, false, false] rfl rfl (any_of HT_.out (by kernel_rfl)) (fun _ _ _ h => h) (Or.inl ⟨by rfl, ?_⟩) ?_ ?_
             rotate_left
             ·intro w'
              go_simp
              with_reducible rfl
             rotate_left
             ·simp only [Act.put, List.setIfInBounds_toArray, List.set_cons_zero, List.set_cons_succ, i64_w, i32_w]
              rfl
             refine pure_ (i := 2) (N := some 75) (v := ?_) (a' := ?_) #[true, true, true, false, false, false, false, false, false] rfl rfl (any_of HT_.out (by kernel_rfl)) (fun _ _ _ h => h) (Or.inl ⟨by rfl, ?_⟩) ?_ ?_
             rotate_left
             ·intro w'
              go_simp
              with_reducible rfl
             rotate_left
             ·simp only [Act.put, List.setIfInBounds_toArray, List.set_cons_zero, List.set_cons_succ, i64_w, i32_w]
              rfl
             refine pure_ (i := 3) (N := some 76) (v := undef) (a' := ?_) #[true, true, true, true, false, false, false, false, false] rfl rfl (any_of HT_.out (by kernel_rfl)) (fun _ _ _ h => h) (Or.inr ⟨by rfl, rfl⟩) ?_ ?_
             rotate_left
             ·simp only [Act.put, List.setIfInBounds_toArray, List.set_cons_zero, List.set_cons_succ, i64_w, i32_w]
              rfl
             refine pure_ (i := 4) (N := some 77) (v := undef) (a' := ?_) #[true, true, true, true, true, false, false, false, false] rfl rfl (any_of HT_.out (by kernel_rfl)) (fun _ _ _ h => h) (Or.inr ⟨by rfl, rfl⟩) ?_ ?_
             rotate_left
             ·simp only [Act.put, List.setIfInBounds_toArray, List.set_cons_zero, List.set_cons_succ, i64_w, i32_w]
              rfl
             refine pure_ (i := 5) (N := some 78) (v := undef) (a' := ?_) #[true, true, true, true, true, true, false, false, false] rfl rfl (any_of HT_.out (by kernel_rfl)) (fun _ _ _ h => h) (Or.inr ⟨by rfl, rfl⟩) ?_ ?_
             rotate_left
             ·simp only [Act.put, List.setIfInBounds_toArray, List.set_cons_zero, List.set_cons_succ, i64_w, i32_w]
              rfl
             refine pure_ (i := 6) (N := some 79) (v := undef) (a' := ?_) #[true, true, true, true, true, true, true, false, false] rfl rfl (any_of HT_.out (by kernel_rfl)) (fun _ _ _ h => h) (Or.inr ⟨by rfl, rfl⟩) ?_ ?_
             rotate_left
             ·simp only [Act.put, List.setIfInBounds_toArray, List.set_cons_zero, List.set_cons_succ, i64_w, i32_w]
              rfl
             refine pure_ (i := 7) (N := some 80) (v := ?_) (a' := ?_) #[true, true, true, true, true, true, true, true, false] rfl rfl (any_of HT_.out (by kernel_rfl)) (fun _ _ _ h => h) (Or.inl ⟨by rfl, ?_⟩) ?_ ?_
             rotate_left
             ·intro w'
              go_simp
              with_reducible rfl
             rotate_left
             ·simp only [Act.put, List.setIfInBounds_toArray, List.set_cons_zero, List.set_cons_succ, i64_w, i32_w]
              rfl
             refine pure_ (i := 8) (N := some 2) (v := ?_) (a' := ?_) #[true, true, true, true, true, true, true, true, true] rfl rfl (any_of HT_.out (by kernel_rfl)) (fun _ _ _ h => h) (Or.inl ⟨by rfl, ?_⟩) ?_ ?_
             rotate_left
             ·intro w'
              go_simp
              with_reducible rfl
             rotate_left
             ·simp only [Act.put, List.setIfInBounds_toArray, List.set_cons_zero, List.set_cons_succ, i64_w, i32_w]
              rfl
             refine done_ (done_of HT_.out (by kernel_rfl)) ?_
             try go_wp2
             go_ret
             exact ⟨qw_, qb_ HB.out⟩
           ·rw [if_neg c56] at H
            have c56b0 : (t279 == 0) = false := beq_eq_false_iff_ne.mpr c56
            have c56b1 : (t279 != 0) = true := bne_iff_ne.mpr c56
            obtain rfl := Option.some.inj H
            have hnb90 := NB246_259.out
            have hnc90 := NB259_246.out
            obtain ⟨hcz91_0, hcz91_1, hcz91_2, hcz91_3, hcz91_4, hcz91_5, hfz91_0, hfz91_1, hfz91_2, hfz91_3, hfz91_4, hfz91_5⟩ := cz6_ BK246.out
            go_wp2_with (first | ((with_reducible refine gate_callee (f := 14) rfl ?_); refine goesL_ (some 64) rfl rfl Tryd.func14 (by kernel_rfl) rfl #[.agg #[.slice A0_0 l0_0.length c0_0, .int .i64 a0_1, .slice A0_2 l0_2.length c0_2, .bool a0_3, .int .i64 a0_4, .int .i64 a0_5], .bool false] rfl qa_ ?_; (with_reducible refine (section_Put.calls kj17 _ _ l0_0 a0_1 _ _ l0_2 a0_3 a0_4 a0_5 false t266 _ ?side1 ?side2 ?side3 ?side4 A53.out).mono ?_); (case side1 => repeat (first | exact (Kd.C_below HR0_0.out HB.out) | (with_reducible refine Kd.C_alloc ?_ _) | (with_reducible refine Kd.C_drewN ?_ _) | (with_reducible refine Kd.C_drew ?_))); (case side2 => exact HC0_0.out); (case side3 => repeat (first | exact (Kd.C_below HR0_2.out HB.out) | (with_reducible refine Kd.C_alloc ?_ _) | (with_reducible refine Kd.C_drewN ?_ _) | (with_reducible refine Kd.C_drew ?_))); (case side4 => exact HC0_2.out); rintro e w92 ⟨rfl, hb⟩; refine ⟨_, rfl, ?_⟩; have n0_ := Aside0.mk (Kd.V_below (by (with_reducible repeat (first | apply Kd.V_alloc | apply Kd.V_drewN | apply Kd.V_drew)); exact HO_260000.out) hb); have n1_ := Aside0.mk (Kd.V_below (by (with_reducible repeat (first | apply Kd.V_alloc | apply Kd.V_drewN | apply Kd.V_drew)); exact HO_260002.out) hb); have n2_ := Aside0.mk (blk_below (g := gb246) (o := .cells #[.slice A0_0 l0_0.length c0_0, .int .i64 a0_1, .slice A0_2 l0_2.length c0_2, .bool a0_3, .int .i64 a0_4, .int .i64 a0_5] 26 (0, 0)) (qk_ BK246.out) hb); have n3_ := Aside0.mk (blk_below (g := gb259) (o := .cells #[.slice Ao22 t249.length co22, .int .i64 t252, .slice Ao25 t253.length co25, .bool t256, .int .i64 t257, .int .i64 t258] 30 (0, 0)) (qk_ BK259.out) hb); have n4_ := Aside0.mk (below_step (qb_ HB.out) hb); clear HO_260000; clear HO_260002; clear BK246; clear BK259; clear HB; have HO_260000 := n0_; have HO_260002 := n1_; have BK246 := n2_; have BK259 := n3_; have HB := n4_; clear n0_ n1_ n2_ n3_ n4_; (try clear hb); (try clear hb2); (try clear hk); (try clear hi)) | ((with_reducible refine gate_callee (f := 8) rfl ?_); refine goesL_ (some 65) rfl rfl Tryd.func8 (by kernel_rfl) rfl #[.string t266] rfl qa_ ?_; (with_reducible refine (section_Parse.calls kj17 t266 t267 t270 t271 t274 t275 t276 t277 _ A54.out).mono ?_); rintro e w93 ⟨v268, v272, rfl, ho0, ho1, hb⟩; refine ⟨_, rfl, ?_⟩; have n0_ := Aside0.mk (Kd.V_mono (Kd.V_told (Kd.V_told (Kd.V_old (by (with_reducible repeat (first | apply Kd.V_alloc | apply Kd.V_drewN | apply Kd.V_drew)); exact HO_260000.out) hb) (Kd.R_base ho0)) (Kd.R_base ho1)) (fun _ h_ => h_.1)); have n1_ := Aside0.mk (Kd.V_mono (Kd.V_told (Kd.V_told (Kd.V_old (by (with_reducible repeat (first | apply Kd.V_alloc | apply Kd.V_drewN | apply Kd.V_drew)); exact HO_260002.out) hb) (Kd.R_base ho0)) (Kd.R_base ho1)) (fun _ h_ => h_.1)); have n2_ := Aside0.mk (Kd.R_lower ho0 (below_size (qb_ HB.out))); have n3_ := Aside0.mk (Kd.R_lower ho1 (below_size (qb_ HB.out))); have n4_ := Aside0.mk (blk_below (g := gb246) (o := .cells #[.slice A0_0 l0_0.length c0_0, .int .i64 a0_1, .slice A0_2 l0_2.length c0_2, .bool a0_3, .int .i64 a0_4, .int .i64 a0_5] 26 (0, 0)) (qk_ BK246.out) hb); have n5_ := Aside0.mk (blk_below (g := gb259) (o := .cells #[.slice Ao22 t249.length co22, .int .i64 t252, .slice Ao25 t253.length co25, .bool t256, .int .i64 t257, .int .i64 t258] 30 (0, 0)) (qk_ BK259.out) hb); have n6_ := Aside0.mk (below_step (qb_ HB.out) hb); clear HO_260000; clear HO_260002; clear BK246; clear BK259; clear HB; have HO_260000 := n0_; have HO_260002 := n1_; have HO269 := n2_; have HO273 := n3_; have BK246 := n4_; have BK259 := n5_; have HB := n6_; clear n0_ n1_ n2_ n3_ n4_ n5_ n6_; (try clear hb); (try clear hb2); (try clear hk); (try clear hi); (try clear ho0); (try clear ho1)) | ((with_reducible refine gate_dst (N := 7) rfl ?_); (try (refine gate_guard (by rfl) ?_; dsimp only)); refine box_event ?hg (N := 7) ?hd (cs := #[.slice none 0 0, .int .i64 0, .slice none 0 0, .bool false, .int .i64 0, .int .i64 0]) (t := 26) ?hr ?_; (case hd => rfl); (case hg => rfl); (case hr => first | (go_simp; done) | (go_simp; rfl)); intro gb278 hg w94 hbox hb; have n0_ := Aside0.mk (Kd.V_below (Kd.V_elderB (by (with_reducible repeat (first | apply Kd.V_alloc | apply Kd.V_drewN | apply Kd.V_drew)); exact HO_260000.out) gb278 (Nat.le_of_eq hg.symm)) hb); have n1_ := Aside0.mk (Kd.V_below (Kd.V_elderB (by (with_reducible repeat (first | apply Kd.V_alloc | apply Kd.V_drewN | apply Kd.V_drew)); exact HO_260002.out) gb278 (Nat.le_of_eq hg.symm)) hb); have n2_ := Aside0.mk (Kd.R_below (ql_ HO269.out) hb); have n3_ := Aside0.mk (Kd.R_below (ql_ HO273.out) hb); have n4_ := Aside0.mk (blk_below (g := gb246) (o := .cells #[.slice A0_0 l0_0.length c0_0, .int .i64 a0_1, .slice A0_2 l0_2.length c0_2, .bool a0_3, .int .i64 a0_4, .int .i64 a0_5] 26 (0, 0)) (qk_ BK246.out) hb); have n5_ := Aside0.mk (blk_below (g := gb259) (o := .cells #[.slice Ao22 t249.length co22, .int .i64 t252, .slice Ao25 t253.length co25, .bool t256, .int .i64 t257, .int .i64 t258] 30 (0, 0)) (qk_ BK259.out) hb); have n6_ := Aside0.mk (below_step (qb_ HB.out) hb); have n7_ := Aside0.mk (hbox); have n8_ := Aside0.mk ((by rw [hg]; exact (below_size (qb_ HB.out)) : w.heap.size ≤ gb278)); have n9_ := Aside0.mk ((by rw [hg]; exact (below_size (qb_ HB.out)) : w.heap.size ≤ gb278)); have n10_ := Aside0.mk ((by rw [hg]; exact Nat.ne_of_lt (blk_lt (g := gb246) (o := .cells #[.slice A0_0 l0_0.length c0_0, .int .i64 a0_1, .slice A0_2 l0_2.length c0_2, .bool a0_3, .int .i64 a0_4, .int .i64 a0_5] 26 (0, 0)) (qk_ BK246.out)) : gb246 ≠ gb278)); have n11_ := Aside0.mk ((by rw [hg]; exact Nat.ne_of_gt (blk_lt (g := gb246) (o := .cells #[.slice A0_0 l0_0.length c0_0, .int .i64 a0_1, .slice A0_2 l0_2.length c0_2, .bool a0_3, .int .i64 a0_4, .int .i64 a0_5] 26 (0, 0)) (qk_ BK246.out)) : gb278 ≠ gb246)); have n12_ := Aside0.mk ((by rw [hg]; exact Nat.ne_of_lt (blk_lt (g := gb259) (o := .cells #[.slice Ao22 t249.length co22, .int .i64 t252, .slice Ao25 t253.length co25, .bool t256, .int .i64 t257, .int .i64 t258] 30 (0, 0)) (qk_ BK259.out)) : gb259 ≠ gb278)); have n13_ := Aside0.mk ((by rw [hg]; exact Nat.ne_of_gt (blk_lt (g := gb259) (o := .cells #[.slice Ao22 t249.length co22, .int .i64 t252, .slice Ao25 t253.length co25, .bool t256, .int .i64 t257, .int .i64 t258] 30 (0, 0)) (qk_ BK259.out)) : gb278 ≠ gb259)); clear HO_260000; clear HO_260002; clear HO269; clear HO273; clear BK246; clear BK259; clear HB; have HO_260000 := n0_; have HO_260002 := n1_; have HO269 := n2_; have HO273 := n3_; have BK246 := n4_; have BK259 := n5_; have HB := n6_; have BK278 := n7_; have GW278 := n8_; have GE278 := n9_; have NB246_278 := n10_; have NB278_246 := n11_; have NB259_278 := n12_; have NB278_259 := n13_; clear n0_ n1_ n2_ n3_ n4_ n5_ n6_ n7_ n8_ n9_ n10_ n11_ n12_ n13_; clear hb hbox hg; obtain ⟨Ao95, co95, eo95⟩ := Kd.R_slice HO269.out; subst eo95; have hnb96 := NB278_246.out; have hnc96 := NB246_278.out; have hnb97 := NB278_259.out; have hnc97 := NB259_278.out; have hcz98_0 : w94.cell? ⟨gb278, 0, none⟩ = some (.slice none 0 0) := (blk_cell BK278.out 0).trans rfl; have hcz98_1 : w94.cell? ⟨gb278, 1, none⟩ = some (.int .i64 0) := (blk_cell BK278.out 1).trans rfl; have hcz98_2 : w94.cell? ⟨gb278, 2, none⟩ = some (.slice none 0 0) := (blk_cell BK278.out 2).trans rfl; have hcz98_3 : w94.cell? ⟨gb278, 3, none⟩ = some (.bool false) := (blk_cell BK278.out 3).trans rfl; have hcz98_4 : w94.cell? ⟨gb278, 4, none⟩ = some (.int .i64 0) := (blk_cell BK278.out 4).trans rfl; have hcz98_5 : w94.cell? ⟨gb278, 5, none⟩ = some (.int .i64 0) := (blk_cell BK278.out 5).trans rfl; have hfz98_0 := blk_frozen BK278.out 0; have hfz98_1 := blk_frozen BK278.out 1; have hfz98_2 := blk_frozen BK278.out 2; have hfz98_3 := blk_frozen BK278.out 3; have hfz98_4 := blk_frozen BK278.out 4; have hfz98_5 := blk_frozen BK278.out 5; obtain ⟨Ao99, co99, eo99⟩ := Kd.R_slice HO273.out; subst eo99; have hcz100_0 : w94.cell? ⟨gb246, 0, none⟩ = some (.slice A0_0 l0_0.length c0_0) := (blk_cell BK246.out 0).trans rfl; have hcz100_1 : w94.cell? ⟨gb246, 1, none⟩ = some (.int .i64 a0_1) := (blk_cell BK246.out 1).trans rfl; have hcz100_2 : w94.cell? ⟨gb246, 2, none⟩ = some (.slice A0_2 l0_2.length c0_2) := (blk_cell BK246.out 2).trans rfl; have hcz100_3 : w94.cell? ⟨gb246, 3, none⟩ = some (.bool a0_3) := (blk_cell BK246.out 3).trans rfl; have hcz100_4 : w94.cell? ⟨gb246, 4, none⟩ = some (.int .i64 a0_4) := (blk_cell BK246.out 4).trans rfl; have hcz100_5 : w94.cell? ⟨gb246, 5, none⟩ = some (.int .i64 a0_5) := (blk_cell BK246.out 5).trans rfl; have hfz100_0 := blk_frozen BK246.out 0; have hfz100_1 := blk_frozen BK246.out 1; have hfz100_2 := blk_frozen BK246.out 2; have hfz100_3 := blk_frozen BK246.out 3; have hfz100_4 := blk_frozen BK246.out 4; have hfz100_5 := blk_frozen BK246.out 5) | ((with_reducible refine gate_callee (f := 12) rfl ?_); refine goesL_ (some 69) rfl rfl Tryd.func12 (by kernel_rfl) rfl #[.agg #[.slice A0_0 l0_0.length c0_0, .int .i64 a0_1, .slice A0_2 l0_2.length c0_2, .bool a0_3, .int .i64 a0_4, .int .i64 a0_5]] rfl qa_ ?_; (with_reducible refine (section_Check.calls kj17 _ _ l0_0 a0_1 _ _ l0_2 a0_3 a0_4 a0_5 t279 _ ?side1 ?side2 ?side3 ?side4 A55.out).mono ?_); (case side1 => exact Kd.C_below HR0_0.out (qb_ HB.out)); (case side2 => exact HC0_0.out); (case side3 => exact Kd.C_below HR0_2.out (qb_ HB.out)); (case side4 => exact HC0_2.out); rintro e w101 ⟨rfl, hb⟩; refine ⟨_, rfl, ?_⟩; have n0_ := Aside0.mk (Kd.V_below (by (with_reducible repeat (first | apply Kd.V_alloc | apply Kd.V_drewN | apply Kd.V_drew)); exact (Kd.V_mono (Kd.V_far (p := ⟨gb278, 5, none⟩) (Kd.V_far (p := ⟨gb278, 4, none⟩) (Kd.V_far (p := ⟨gb278, 3, none⟩) (Kd.V_far (p := ⟨gb278, 2, none⟩) (Kd.V_far (p := ⟨gb278, 1, none⟩) (Kd.V_far (p := ⟨gb278, 0, none⟩) (Kd.V_mono HO_260000.out (fun k_ hk => (⟨hk, hk.2⟩ : _ ∧ k_ ≠ gb278))) (fun _ hk => hk.2) (.slice Ao95 t267.length co95)) (fun _ hk => hk.2) (.int .i64 t270)) (fun _ hk => hk.2) (.slice Ao99 t271.length co99)) (fun _ hk => hk.2) (.bool t274)) (fun _ hk => hk.2) (.int .i64 t275)) (fun _ hk => hk.2) (.int .i64 t276)) (fun _ h_ => h_.1))) hb); have n1_ := Aside0.mk (Kd.V_below (by (with_reducible repeat (first | apply Kd.V_alloc | apply Kd.V_drewN | apply Kd.V_drew)); exact (Kd.V_mono (Kd.V_far (p := ⟨gb278, 5, none⟩) (Kd.V_far (p := ⟨gb278, 4, none⟩) (Kd.V_far (p := ⟨gb278, 3, none⟩) (Kd.V_far (p := ⟨gb278, 2, none⟩) (Kd.V_far (p := ⟨gb278, 1, none⟩) (Kd.V_far (p := ⟨gb278, 0, none⟩) (Kd.V_mono HO_260002.out (fun k_ hk => (⟨hk, hk.2⟩ : _ ∧ k_ ≠ gb278))) (fun _ hk => hk.2) (.slice Ao95 t267.length co95)) (fun _ hk => hk.2) (.int .i64 t270)) (fun _ hk => hk.2) (.slice Ao99 t271.length co99)) (fun _ hk => hk.2) (.bool t274)) (fun _ hk => hk.2) (.int .i64 t275)) (fun _ hk => hk.2) (.int .i64 t276)) (fun _ h_ => h_.1))) hb); have n2_ := Aside0.mk (Kd.R_below (by (with_reducible repeat (first | apply Kd.R_alloc | apply Kd.R_drewN | apply Kd.R_drew)); exact (Kd.R_mono (Kd.R_far (p := ⟨gb278, 5, none⟩) (Kd.R_far (p := ⟨gb278, 4, none⟩) (Kd.R_far (p := ⟨gb278, 3, none⟩) (Kd.R_far (p := ⟨gb278, 2, none⟩) (Kd.R_far (p := ⟨gb278, 1, none⟩) (Kd.R_far (p := ⟨gb278, 0, none⟩) (Kd.R_types HO269.out BK278.out (by decide)) (fun _ hk => hk.2) (.slice Ao95 t267.length co95)) (fun _ hk => hk.2) (.int .i64 t270)) (fun _ hk => hk.2) (.slice Ao99 t271.length co99)) (fun _ hk => hk.2) (.bool t274)) (fun _ hk => hk.2) (.int .i64 t275)) (fun _ hk => hk.2) (.int .i64 t276)) (fun _ h_ => h_.1))) hb); have n3_ := Aside0.mk (Kd.R_below (by (with_reducible repeat (first | apply Kd.R_alloc | apply Kd.R_drewN | apply Kd.R_drew)); exact (Kd.R_mono (Kd.R_far (p := ⟨gb278, 5, none⟩) (Kd.R_far (p := ⟨gb278, 4, none⟩) (Kd.R_far (p := ⟨gb278, 3, none⟩) (Kd.R_far (p := ⟨gb278, 2, none⟩) (Kd.R_far (p := ⟨gb278, 1, none⟩) (Kd.R_far (p := ⟨gb278, 0, none⟩) (Kd.R_types HO273.out BK278.out (by decide)) (fun _ hk => hk.2) (.slice Ao95 t267.length co95)) (fun _ hk => hk.2) (.int .i64 t270)) (fun _ hk => hk.2) (.slice Ao99 t271.length co99)) (fun _ hk => hk.2) (.bool t274)) (fun _ hk => hk.2) (.int .i64 t275)) (fun _ hk => hk.2) (.int .i64 t276)) (fun _ h_ => h_.1))) hb); have n4_ := Aside0.mk (blk_below (g := gb246) (o := .cells #[.slice A0_0 l0_0.length c0_0, .int .i64 a0_1, .slice A0_2 l0_2.length c0_2, .bool a0_3, .int .i64 a0_4, .int .i64 a0_5] 26 (0, 0)) (by (with_reducible repeat (first | refine blk_drewN ?_ _ | refine blk_drew ?_ | refine blk_alloc ?_ _)); refine blk_far ?_ NB246_278.out _; (with_reducible repeat (first | refine blk_drewN ?_ _ | refine blk_drew ?_ | refine blk_alloc ?_ _)); refine blk_far ?_ NB246_278.out _; (with_reducible repeat (first | refine blk_drewN ?_ _ | refine blk_drew ?_ | refine blk_alloc ?_ _)); refine blk_far ?_ NB246_278.out _; (with_reducible repeat (first | refine blk_drewN ?_ _ | refine blk_drew ?_ | refine blk_alloc ?_ _)); refine blk_far ?_ NB246_278.out _; (with_reducible repeat (first | refine blk_drewN ?_ _ | refine blk_drew ?_ | refine blk_alloc ?_ _)); refine blk_far ?_ NB246_278.out _; (with_reducible repeat (first | refine blk_drewN ?_ _ | refine blk_drew ?_ | refine blk_alloc ?_ _)); refine blk_far ?_ NB246_278.out _; (with_reducible repeat (first | refine blk_drewN ?_ _ | refine blk_drew ?_ | refine blk_alloc ?_ _)); exact BK246.out) hb); have n5_ := Aside0.mk (blk_below (g := gb259) (o := .cells #[.slice Ao22 t249.length co22, .int .i64 t252, .slice Ao25 t253.length co25, .bool t256, .int .i64 t257, .int .i64 t258] 30 (0, 0)) (by (with_reducible repeat (first | refine blk_drewN ?_ _ | refine blk_drew ?_ | refine blk_alloc ?_ _)); refine blk_far ?_ NB259_278.out _; (with_reducible repeat (first | refine blk_drewN ?_ _ | refine blk_drew ?_ | refine blk_alloc ?_ _)); refine blk_far ?_ NB259_278.out _; (with_reducible repeat (first | refine blk_drewN ?_ _ | refine blk_drew ?_ | refine blk_alloc ?_ _)); refine blk_far ?_ NB259_278.out _; (with_reducible repeat (first | refine blk_drewN ?_ _ | refine blk_drew ?_ | refine blk_alloc ?_ _)); refine blk_far ?_ NB259_278.out _; (with_reducible repeat (first | refine blk_drewN ?_ _ | refine blk_drew ?_ | refine blk_alloc ?_ _)); refine blk_far ?_ NB259_278.out _; (with_reducible repeat (first | refine blk_drewN ?_ _ | refine blk_drew ?_ | refine blk_alloc ?_ _)); refine blk_far ?_ NB259_278.out _; (with_reducible repeat (first | refine blk_drewN ?_ _ | refine blk_drew ?_ | refine blk_alloc ?_ _)); exact BK259.out) hb); have n6_ := Aside0.mk (blk_below (g := gb278) (o := .cells #[.slice Ao95 t267.length co95, .int .i64 t270, .slice Ao99 t271.length co99, .bool t274, .int .i64 t275, .int .i64 t276] 26 (0, 0)) (qs6_ (qk_ BK278.out)) hb); have n7_ := Aside0.mk (below_step (qb_ HB.out) hb); clear HO_260000; clear HO_260002; clear HO269; clear HO273; clear BK246; clear BK259; clear BK278; clear HB; have HO_260000 := n0_; have HO_260002 := n1_; have HO269 := n2_; have HO273 := n3_; have BK246 := n4_; have BK259 := n5_; have BK278 := n6_; have HB := n7_; clear n0_ n1_ n2_ n3_ n4_ n5_ n6_ n7_; (try clear hb); (try clear hb2); (try clear hk); (try clear hi)))
            go_ret
            exact ⟨qw_, qb_ HB.out⟩
 ·replace c3 := Bool.eq_false_iff.mpr c3
  subst c3
  have H1 : (some false) = some r := by rw [if_neg (show ¬ (false = true) by decide)] at H; exact H
  clear H
  have H := H1
  clear H1
  obtain rfl := Option.some.inj H
  go_enter Tryd.func4, Tryd.ntmps4
  go_wp2_with (first | ((with_reducible refine gate_dst (N := 1) rfl ?_); (try (refine gate_guard (by rfl) ?_; dsimp only)); refine box_event ?hg (N := 1) ?hd (cs := #[.slice A0_0 l0_0.length c0_0, .int .i64 a0_1, .slice A0_2 l0_2.length c0_2, .bool a0_3, .int .i64 a0_4, .int .i64 a0_5]) (t := 26) ?hr ?_; (case hd => rfl); (case hg => rfl); (case hr => first | (go_simp; done) | (go_simp; rfl)); intro gb246 hg w102 hbox hb; have n0_ := Aside0.mk (below_step (qb_ HB.out) hb); have n1_ := Aside0.mk (hbox); have n2_ := Aside0.mk ((by rw [hg]; exact (below_size (qb_ HB.out)) : w.heap.size ≤ gb246)); have n3_ := Aside0.mk ((by rw [hg]; exact (below_size (qb_ HB.out)) : w.heap.size ≤ gb246)); clear HB; have HB := n0_; have BK246 := n1_; have GW246 := n2_; have GE246 := n3_; clear n0_ n1_ n2_ n3_; clear hb hbox hg) | ((with_reducible refine gate_callee (f := 7) rfl ?_); refine goesL_ (some 9) rfl rfl Tryd.func7 (by kernel_rfl) rfl #[] rfl qa_ ?_; (with_reducible refine (letterboxlaw15_awake.calls k  false _ A2.out).mono ?_); rintro e w103 ⟨rfl, hb⟩; refine ⟨_, rfl, ?_⟩; have n0_ := Aside0.mk (blk_below (g := gb246) (o := .cells #[.slice A0_0 l0_0.length c0_0, .int .i64 a0_1, .slice A0_2 l0_2.length c0_2, .bool a0_3, .int .i64 a0_4, .int .i64 a0_5] 26 (0, 0)) (qk_ BK246.out) hb); have n1_ := Aside0.mk (below_step (qb_ HB.out) hb); clear BK246; clear HB; have BK246 := n0_; have HB := n1_; clear n0_ n1_; (try clear hb); (try clear hb2); (try clear hk); (try clear hi)))
  go_ret
  exact ⟨qw_, qb_ HB.out⟩

end Go.Proofs.YtbjbagocnnffaaaDoor.P
