-- Written by a program of this session (wip/tools/mk.sh) for this claim: it runs the kit's print with contracts of our own. Lean checks it.
import Derived.Test.YtmbiggcapakjjaaDoorPx0
import Derived.Test.YtmbiggcapakjjaaDoorWRepsOne
import Derived.Test.YtmbiggcapakjjaaDoorWTab
import Derived.Test.YtmbiggcapakjjaaDoorZSplit
import Derived.Test.YtmbiggcapakjjaaDoorPx7
import Derived.Test.YtmbiggcapakjjaaDoorPx8
namespace Go.Proofs.YtmbiggcapakjjaaDoor.P
open Go.RowKit Go.Proofs.YtmbiggcapakjjaaDoorW.PrintWords Go.Proofs.YtmbiggcapakjjaaDoorW.PrintLast Go.Proofs.YtmbiggcapakjjaaDoorW.PrintMore
attribute [-simp] Int.tmod_tmod_of_dvd
attribute [local go_sem] max2_int min2_int max_two min_two max_three min_three max_four min_four   -- for this text's walks alone
set_option linter.unusedVariables false
set_option linter.unusedSimpArgs false

/-! ### date_Internal: function 14 -/
mutual
def date_Internal.j0 : Nat → Bool → Int → Int → Option (ByteArray)
 | 0, _, _, _ => none
 | k + 1, x30, x229000, x229001 => if x30 = true then (some (⟨#[]⟩ : ByteArray)) else ((date_floor.f (wrap64 (x229000 + (wrap64 (x229001 * 60)))) 86400).bind fun t229 => ((date_civil.f k t229).bind fun bt230 => (if bt230.2.2.2 = true then (if x229001 < 0 then (date_Internal.j1 k bt230.1 bt230.2.1 bt230.2.2.1 (wrap64 ((wrap64 (x229000 + (wrap64 (x229001 * 60)))) - (wrap64 (t229 * 86400)))) (⟨#[45]⟩ : ByteArray) (wrap64 (-x229001))) else (date_Internal.j1 k bt230.1 bt230.2.1 bt230.2.2.1 (wrap64 ((wrap64 (x229000 + (wrap64 (x229001 * 60)))) - (wrap64 (t229 * 86400)))) (⟨#[43]⟩ : ByteArray) x229001)) else (some (⟨#[]⟩ : ByteArray)))))
def date_Internal.j1 : Nat → Int → Int → Int → Int → ByteArray → Int → Option (ByteArray)
 | 0, _, _, _, _, _, _ => none
 | k + 1, x5, x6, x7, x9, x10, x11 => (date_two.f x7).bind fun t234 => (if x7 < 10 then ((chars_Digits.f k x7).bind fun t235 => (if 1 + t235.size ≤ 9223372036854775807 then (date_Internal.j2 k x5 x6 x9 x10 x11 ((⟨#[32]⟩ : ByteArray) ++ t235)) else (none))) else (date_Internal.j2 k x5 x6 x9 x10 x11 t234))
def date_Internal.j2 : Nat → Int → Int → Int → ByteArray → Int → ByteArray → Option (ByteArray)
 | 0, _, _, _, _, _, _ => none
 | k + 1, x5, x6, x9, x10, x11, x12 => if 1 + x12.size ≤ 9223372036854775807 then (if ((⟨#[34]⟩ : ByteArray) ++ x12).size + 1 ≤ 9223372036854775807 then (if 0 ≤ x6 then (if x6 < 12 then (if (((⟨#[34]⟩ : ByteArray) ++ x12) ++ (⟨#[45]⟩ : ByteArray)).size + (mo_word x6).size ≤ 9223372036854775807 then (if ((((⟨#[34]⟩ : ByteArray) ++ x12) ++ (⟨#[45]⟩ : ByteArray)) ++ (mo_word x6)).size + 1 ≤ 9223372036854775807 then ((date_two.f (wrap64 (Int.tdiv x5 100))).bind fun t236 => (if (((((⟨#[34]⟩ : ByteArray) ++ x12) ++ (⟨#[45]⟩ : ByteArray)) ++ (mo_word x6)) ++ (⟨#[45]⟩ : ByteArray)).size + t236.size ≤ 9223372036854775807 then ((date_two.f (Int.tmod x5 100)).bind fun t237 => (if ((((((⟨#[34]⟩ : ByteArray) ++ x12) ++ (⟨#[45]⟩ : ByteArray)) ++ (mo_word x6)) ++ (⟨#[45]⟩ : ByteArray)) ++ t236).size + t237.size ≤ 9223372036854775807 then (if (((((((⟨#[34]⟩ : ByteArray) ++ x12) ++ (⟨#[45]⟩ : ByteArray)) ++ (mo_word x6)) ++ (⟨#[45]⟩ : ByteArray)) ++ t236) ++ t237).size + 1 ≤ 9223372036854775807 then ((date_two.f (wrap64 (Int.tdiv x9 3600))).bind fun t238 => (if ((((((((⟨#[34]⟩ : ByteArray) ++ x12) ++ (⟨#[45]⟩ : ByteArray)) ++ (mo_word x6)) ++ (⟨#[45]⟩ : ByteArray)) ++ t236) ++ t237) ++ (⟨#[32]⟩ : ByteArray)).size + t238.size ≤ 9223372036854775807 then (if (((((((((⟨#[34]⟩ : ByteArray) ++ x12) ++ (⟨#[45]⟩ : ByteArray)) ++ (mo_word x6)) ++ (⟨#[45]⟩ : ByteArray)) ++ t236) ++ t237) ++ (⟨#[32]⟩ : ByteArray)) ++ t238).size + 1 ≤ 9223372036854775807 then ((date_two.f (Int.tmod (wrap64 (Int.tdiv x9 60)) 60)).bind fun t239 => (if ((((((((((⟨#[34]⟩ : ByteArray) ++ x12) ++ (⟨#[45]⟩ : ByteArray)) ++ (mo_word x6)) ++ (⟨#[45]⟩ : ByteArray)) ++ t236) ++ t237) ++ (⟨#[32]⟩ : ByteArray)) ++ t238) ++ (⟨#[58]⟩ : ByteArray)).size + t239.size ≤ 9223372036854775807 then (if (((((((((((⟨#[34]⟩ : ByteArray) ++ x12) ++ (⟨#[45]⟩ : ByteArray)) ++ (mo_word x6)) ++ (⟨#[45]⟩ : ByteArray)) ++ t236) ++ t237) ++ (⟨#[32]⟩ : ByteArray)) ++ t238) ++ (⟨#[58]⟩ : ByteArray)) ++ t239).size + 1 ≤ 9223372036854775807 then ((date_two.f (Int.tmod x9 60)).bind fun t240 => (if ((((((((((((⟨#[34]⟩ : ByteArray) ++ x12) ++ (⟨#[45]⟩ : ByteArray)) ++ (mo_word x6)) ++ (⟨#[45]⟩ : ByteArray)) ++ t236) ++ t237) ++ (⟨#[32]⟩ : ByteArray)) ++ t238) ++ (⟨#[58]⟩ : ByteArray)) ++ t239) ++ (⟨#[58]⟩ : ByteArray)).size + t240.size ≤ 9223372036854775807 then (if (((((((((((((⟨#[34]⟩ : ByteArray) ++ x12) ++ (⟨#[45]⟩ : ByteArray)) ++ (mo_word x6)) ++ (⟨#[45]⟩ : ByteArray)) ++ t236) ++ t237) ++ (⟨#[32]⟩ : ByteArray)) ++ t238) ++ (⟨#[58]⟩ : ByteArray)) ++ t239) ++ (⟨#[58]⟩ : ByteArray)) ++ t240).size + 1 ≤ 9223372036854775807 then (if ((((((((((((((⟨#[34]⟩ : ByteArray) ++ x12) ++ (⟨#[45]⟩ : ByteArray)) ++ (mo_word x6)) ++ (⟨#[45]⟩ : ByteArray)) ++ t236) ++ t237) ++ (⟨#[32]⟩ : ByteArray)) ++ t238) ++ (⟨#[58]⟩ : ByteArray)) ++ t239) ++ (⟨#[58]⟩ : ByteArray)) ++ t240) ++ (⟨#[32]⟩ : ByteArray)).size + x10.size ≤ 9223372036854775807 then ((date_two.f (wrap64 (Int.tdiv x11 60))).bind fun t241 => (if (((((((((((((((⟨#[34]⟩ : ByteArray) ++ x12) ++ (⟨#[45]⟩ : ByteArray)) ++ (mo_word x6)) ++ (⟨#[45]⟩ : ByteArray)) ++ t236) ++ t237) ++ (⟨#[32]⟩ : ByteArray)) ++ t238) ++ (⟨#[58]⟩ : ByteArray)) ++ t239) ++ (⟨#[58]⟩ : ByteArray)) ++ t240) ++ (⟨#[32]⟩ : ByteArray)) ++ x10).size + t241.size ≤ 9223372036854775807 then ((date_two.f (Int.tmod x11 60)).bind fun t242 => (if ((((((((((((((((⟨#[34]⟩ : ByteArray) ++ x12) ++ (⟨#[45]⟩ : ByteArray)) ++ (mo_word x6)) ++ (⟨#[45]⟩ : ByteArray)) ++ t236) ++ t237) ++ (⟨#[32]⟩ : ByteArray)) ++ t238) ++ (⟨#[58]⟩ : ByteArray)) ++ t239) ++ (⟨#[58]⟩ : ByteArray)) ++ t240) ++ (⟨#[32]⟩ : ByteArray)) ++ x10) ++ t241).size + t242.size ≤ 9223372036854775807 then (if (((((((((((((((((⟨#[34]⟩ : ByteArray) ++ x12) ++ (⟨#[45]⟩ : ByteArray)) ++ (mo_word x6)) ++ (⟨#[45]⟩ : ByteArray)) ++ t236) ++ t237) ++ (⟨#[32]⟩ : ByteArray)) ++ t238) ++ (⟨#[58]⟩ : ByteArray)) ++ t239) ++ (⟨#[58]⟩ : ByteArray)) ++ t240) ++ (⟨#[32]⟩ : ByteArray)) ++ x10) ++ t241) ++ t242).size + 1 ≤ 9223372036854775807 then (some ((((((((((((((((((⟨#[34]⟩ : ByteArray) ++ x12) ++ (⟨#[45]⟩ : ByteArray)) ++ (mo_word x6)) ++ (⟨#[45]⟩ : ByteArray)) ++ t236) ++ t237) ++ (⟨#[32]⟩ : ByteArray)) ++ t238) ++ (⟨#[58]⟩ : ByteArray)) ++ t239) ++ (⟨#[58]⟩ : ByteArray)) ++ t240) ++ (⟨#[32]⟩ : ByteArray)) ++ x10) ++ t241) ++ t242) ++ (⟨#[34]⟩ : ByteArray))) else (none)) else (none))) else (none))) else (none)) else (none)) else (none))) else (none)) else (none))) else (none)) else (none))) else (none)) else (none))) else (none))) else (none)) else (none)) else (none)) else (none)) else (none)) else (none)
end
def date_Internal.f (k : Nat) (a0_0 : Int) (a0_1 : Int) : Option (ByteArray) := if a0_1 ≤ (-1440) then (date_Internal.j0 k true a0_0 a0_1) else (if a0_1 ≥ 1440 then (date_Internal.j0 k true a0_0 a0_1) else (if a0_0 > 1099511627776 then (date_Internal.j0 k true a0_0 a0_1) else (date_Internal.j0 k (decide (a0_0 < (-1099511627776))) a0_0 a0_1)))
theorem date_Internal.mono_l : ∀ k, (∀ y0 y1 y2, LeO (date_Internal.j0 k y0 y1 y2) (date_Internal.j0 (k + 1) y0 y1 y2)) ∧ (∀ y0 y1 y2 y3 y4 y5, LeO (date_Internal.j1 k y0 y1 y2 y3 y4 y5) (date_Internal.j1 (k + 1) y0 y1 y2 y3 y4 y5)) ∧ (∀ y0 y1 y2 y3 y4 y5, LeO (date_Internal.j2 k y0 y1 y2 y3 y4 y5) (date_Internal.j2 (k + 1) y0 y1 y2 y3 y4 y5))
 | 0 => ⟨fun _ _ _ r h => by simp [date_Internal.j0] at h, fun _ _ _ _ _ _ r h => by simp [date_Internal.j1] at h, fun _ _ _ _ _ _ r h => by simp [date_Internal.j2] at h⟩
 | k + 1 => by
  obtain ⟨ih0, ih1, ih2⟩ := date_Internal.mono_l k
  refine ⟨?_, ?_, ?_⟩
  ·intro y0 y1 y2
   unfold date_Internal.j0
   repeat' first
   | (with_reducible exact ih0 _ _ _)
   | (with_reducible exact ih1 _ _ _ _ _ _)
   | (with_reducible exact ih2 _ _ _ _ _ _)
   | (with_reducible exact chars_Digits.mono _ _)
   | (with_reducible exact date_civil.mono _ _)
   | (with_reducible exact LeO.refl _)
   | (with_reducible exact LeO.none _)
   | (with_reducible refine LeO.ite ?_ ?_)
   | (with_reducible refine LeO.bind ?_ (fun _ => ?_))
   | exact ih0 _ _ _
   | exact ih1 _ _ _ _ _ _
   | exact ih2 _ _ _ _ _ _
   | exact chars_Digits.mono _ _
   | exact date_civil.mono _ _
   | exact LeO.none _
   | refine LeO.ite ?_ ?_
   | refine LeO.bind ?_ (fun _ => ?_)
  ·intro y0 y1 y2 y3 y4 y5
   unfold date_Internal.j1
   repeat' first
   | (with_reducible exact ih0 _ _ _)
   | (with_reducible exact ih1 _ _ _ _ _ _)
   | (with_reducible exact ih2 _ _ _ _ _ _)
   | (with_reducible exact chars_Digits.mono _ _)
   | (with_reducible exact date_civil.mono _ _)
   | (with_reducible exact LeO.refl _)
   | (with_reducible exact LeO.none _)
   | (with_reducible refine LeO.ite ?_ ?_)
   | (with_reducible refine LeO.bind ?_ (fun _ => ?_))
   | exact ih0 _ _ _
   | exact ih1 _ _ _ _ _ _
   | exact ih2 _ _ _ _ _ _
   | exact chars_Digits.mono _ _
   | exact date_civil.mono _ _
   | exact LeO.none _
   | refine LeO.ite ?_ ?_
   | refine LeO.bind ?_ (fun _ => ?_)
  ·intro y0 y1 y2 y3 y4 y5
   unfold date_Internal.j2
   repeat' first
   | (with_reducible exact ih0 _ _ _)
   | (with_reducible exact ih1 _ _ _ _ _ _)
   | (with_reducible exact ih2 _ _ _ _ _ _)
   | (with_reducible exact chars_Digits.mono _ _)
   | (with_reducible exact date_civil.mono _ _)
   | (with_reducible exact LeO.refl _)
   | (with_reducible exact LeO.none _)
   | (with_reducible refine LeO.ite ?_ ?_)
   | (with_reducible refine LeO.bind ?_ (fun _ => ?_))
   | exact ih0 _ _ _
   | exact ih1 _ _ _ _ _ _
   | exact ih2 _ _ _ _ _ _
   | exact chars_Digits.mono _ _
   | exact date_civil.mono _ _
   | exact LeO.none _
   | refine LeO.ite ?_ ?_
   | refine LeO.bind ?_ (fun _ => ?_)
theorem date_Internal.mono : ∀ a0 a1 k, LeO (date_Internal.f k a0 a1) (date_Internal.f (k + 1) a0 a1) := by
 intro a0 a1 k
 obtain ⟨ih0, ih1, ih2⟩ := date_Internal.mono_l k
 unfold date_Internal.f
 repeat' first
   | (with_reducible exact ih0 _ _ _)
   | (with_reducible exact ih1 _ _ _ _ _ _)
   | (with_reducible exact ih2 _ _ _ _ _ _)
   | (with_reducible exact chars_Digits.mono _ _)
   | (with_reducible exact date_civil.mono _ _)
   | (with_reducible exact LeO.refl _)
   | (with_reducible exact LeO.none _)
   | (with_reducible refine LeO.ite ?_ ?_)
   | (with_reducible refine LeO.bind ?_ (fun _ => ?_))
   | exact ih0 _ _ _
   | exact ih1 _ _ _ _ _ _
   | exact ih2 _ _ _ _ _ _
   | exact chars_Digits.mono _ _
   | exact date_civil.mono _ _
   | exact LeO.none _
   | refine LeO.ite ?_ ?_
   | refine LeO.bind ?_ (fun _ => ?_)
def date_Internal.T15 : Bool × List (List Nat × List Nat) := (true, [([], []), ([0], [0]), ([1], [1]), ([], []), ([3], [3]), ([4], [4]), ([2, 5], [2, 5]), ([6], [6]), ([], []), ([8], [8]), ([9], [9]), ([7, 10], [7, 10]), ([], []), ([12], [12]), ([13, 10], [13]), ([11, 14], [11, 14]), ([15], [15]), ([], []), ([17], [17]), ([18, 14], [18]), ([16, 19], [16, 19]), ([20], [20]), ([], []), ([22], [22]), ([23], [23]), ([24, 19], [24]), ([21, 25], [21, 25]), ([26], [26]), ([], []), ([28], [28]), ([29, 25], [29]), ([27, 30], [27, 30]), ([31], [31]), ([], []), ([32, 33], [32, 33]), ([], []), ([35], [35]), ([36, 30], [36]), ([34, 37], [34, 37]), ([], []), ([39], [39]), ([40, 37], [40]), ([38, 41], [38, 41]), ([42], [42]), ([43, 41, 0, 1, 2, 3, 4, 5, 6, 7, 8, 9, 10, 11, 12, 13, 14, 15, 16, 17, 18, 19, 20, 21, 22, 23, 24, 25, 26, 27, 28, 29, 30, 31, 32, 33, 34, 35, 36, 37, 38, 39, 40, 41, 42, 43], [43])])
def date_Internal.B15 : List Nat := [0, 1, 3, 0, 8, 24, 63, 127, 0, 256, 768, 2047, 0, 4096, 14080, 32767, 65535, 0, 131072, 423680, 1048575, 2097151, 0, 4194304, 12582912, 30308096, 67108863, 134217727, 0, 268435456, 869168896, 2147483647, 4294967295, 0, 17179869183, 0, 34359738368, 105022125824, 274877906943, 0, 549755813888, 1891728520960, 4398046511103, 8796093022207, 17592186044415]
theorem date_Internal.tab15 : rtab .any (opsOf Tryd.f14 15) = date_Internal.T15 := by kernel_rfl
theorem date_Internal.bits15 : waitsOk date_Internal.T15.2 date_Internal.B15 = true := by kernel_rfl
set_option maxHeartbeats 8000000 in
set_option maxRecDepth 100000 in
theorem date_Internal.calls (k : Nat) (a0_0 : Int) (a0_1 : Int) (r : ByteArray) (w : World) (h : date_Internal.f k a0_0 a0_1 = some r) (hL0 : mo_Words w := by first | exact hL0 | exact mo_Words.below hL0 (by repeat (first | (with_reducible first | exact HB.out | apply below_alloc | apply pw_below_drewN | apply below_drew1 | refine below_set ?_ (Aside0.out (by assumption))) | exact HB.out))) :
  Calls Tryd.prog 14 #[.agg #[.int .i64 a0_0, .int .i64 a0_1]] w fun e w' => e = .returned (.string r) ∧ Below w.heap.size w w' := by
 have hu24 := Tryd.underlying24
 have HB := Aside0.mk (Below.refl w.heap.size w)
 have H : (if a0_1 ≤ (-1440) then (date_Internal.j0 k true a0_0 a0_1) else (if a0_1 ≥ 1440 then (date_Internal.j0 k true a0_0 a0_1) else (if a0_0 > 1099511627776 then (date_Internal.j0 k true a0_0 a0_1) else (date_Internal.j0 k (decide (a0_0 < (-1099511627776))) a0_0 a0_1)))) = some r := h
 clear h
 have HC2 := Aside0.mk H
 clear H
 go_enter Tryd.func14, Tryd.ntmps14
 go_upto_region 1 with (first | ((with_reducible refine gate_dst (N := 1) rfl ?_); refine box_event ?hg (N := 1) ?hd (cs := #[.int .i64 a0_0, .int .i64 a0_1]) (t := 24) ?hr ?_; (case hd => rfl); (case hg => rfl); (case hr => first | (go_simp; done) | (go_simp; rfl)); intro gb228 hg w3 hbox hb; have n0_ := Aside0.mk (below_step (qb_ HB.out) hb); have n1_ := Aside0.mk (hbox); have n2_ := Aside0.mk ((by rw [hg]; exact (below_size (qb_ HB.out)) : w.heap.size ≤ gb228)); have n3_ := Aside0.mk ((by rw [hg]; exact (below_size (qb_ HB.out)) : w.heap.size ≤ gb228)); clear HB; have HB := n0_; have BK228 := n1_; have GW228 := n2_; have GE228 := n3_; clear n0_ n1_ n2_ n3_; clear hb hbox hg))
 (try simp only [Act.put, List.setIfInBounds_toArray, List.set_cons_zero, List.set_cons_succ])
 go_cut [30] (fun v30 wc => ∃ (kq : Nat) (x30_1 : Bool), v30 = .bool x30_1 ∧ Aside0 (date_Internal.j0 kq x30_1 a0_0 a0_1 = some r) ∧ Aside0 (kq ≤ k) ∧ Aside0 (wc.heap[gb228]? = some (.cells #[.int .i64 a0_0, .int .i64 a0_1] 24 (0, 0))) ∧ Aside0 (Below w.heap.size w wc))
 case first =>
  have H := HC2.out
  clear HC2
  by_cases c4 : a0_1 ≤ (-1440)
  ·rw [if_pos c4] at H
   have c4b0 : decide (a0_1 ≤ (-1440)) = true := decide_eq_true c4
   clear c4
   (first | rw [c4b0] | (simp only [i64_w, i32_w]; rw [c4b0]) | skip)
   have H' := Aside0.mk H
   clear H
   obtain ⟨hcz5_0, hcz5_1, hfz5_0, hfz5_1⟩ := cz2_ BK228.out
   go_wp2
   go_meet
   case rel => exact ⟨_, (true), qr_, H', ⟨by first | omega | exact Nat.le_refl _⟩, ⟨qk_ BK228.out⟩, ⟨qb_ HB.out⟩⟩
  ·rw [if_neg c4] at H
   have c4b0 : decide (a0_1 ≤ (-1440)) = false := decide_eq_false c4
   clear c4
   (first | rw [c4b0] | (simp only [i64_w, i32_w]; rw [c4b0]) | skip)
   by_cases c6 : a0_1 ≥ 1440
   ·rw [if_pos c6] at H
    have c6b0 : decide (1440 ≤ a0_1) = true := decide_eq_true c6
    clear c6
    have H' := Aside0.mk H
    clear H
    obtain ⟨hcz7_0, hcz7_1, hfz7_0, hfz7_1⟩ := cz2_ BK228.out
    go_wp2
    go_meet
    case rel => exact ⟨_, (true), qr_, H', ⟨by first | omega | exact Nat.le_refl _⟩, ⟨qk_ BK228.out⟩, ⟨qb_ HB.out⟩⟩
   ·rw [if_neg c6] at H
    have c6b0 : decide (1440 ≤ a0_1) = false := decide_eq_false c6
    clear c6
    by_cases c8 : a0_0 > 1099511627776
    ·rw [if_pos c8] at H
     have c8b0 : decide (1099511627776 < a0_0) = true := decide_eq_true c8
     clear c8
     have H' := Aside0.mk H
     clear H
     obtain ⟨hcz9_0, hcz9_1, hfz9_0, hfz9_1⟩ := cz2_ BK228.out
     go_wp2
     go_meet
     case rel => exact ⟨_, (true), qr_, H', ⟨by first | omega | exact Nat.le_refl _⟩, ⟨qk_ BK228.out⟩, ⟨qb_ HB.out⟩⟩
    ·rw [if_neg c8] at H
     have c8b0 : decide (1099511627776 < a0_0) = false := decide_eq_false c8
     clear c8
     have H' := Aside0.mk H
     clear H
     obtain ⟨hcz10_0, hcz10_1, hfz10_0, hfz10_1⟩ := cz2_ BK228.out
     go_wp2
     go_meet
     case rel => exact ⟨_, (decide (a0_0 < (-1099511627776))), qr_, H', ⟨by first | omega | exact Nat.le_refl _⟩, ⟨qk_ BK228.out⟩, ⟨qb_ HB.out⟩⟩
 case rest =>
  clear HC2
  obtain ⟨kq, x30_1, rfl, HA, HJ1, BK228, HB⟩ := hcut
  cases kq with
  | zero => exact absurd HA.out (by simp [date_Internal.j0])
  | succ kj1 =>
   have H := HA.out
   clear HA
   simp only [date_Internal.j0] at H
   by_cases c11 : x30_1 = true
   ·subst c11
    have H1 : (some (⟨#[]⟩ : ByteArray)) = some r := by rw [if_pos rfl] at H; exact H
    clear H
    have H := H1
    clear H1
    obtain rfl := Option.some.inj H
    go_wp2
    go_ret
    exact ⟨qw_, qb_ HB.out⟩
   ·replace c11 := Bool.eq_false_iff.mpr c11
    subst c11
    have H1 : ((date_floor.f (wrap64 (a0_0 + (wrap64 (a0_1 * 60)))) 86400).bind fun t229 => ((date_civil.f kj1 t229).bind fun bt230 => (if bt230.2.2.2 = true then (if a0_1 < 0 then (date_Internal.j1 kj1 bt230.1 bt230.2.1 bt230.2.2.1 (wrap64 ((wrap64 (a0_0 + (wrap64 (a0_1 * 60)))) - (wrap64 (t229 * 86400)))) (⟨#[45]⟩ : ByteArray) (wrap64 (-a0_1))) else (date_Internal.j1 kj1 bt230.1 bt230.2.1 bt230.2.2.1 (wrap64 ((wrap64 (a0_0 + (wrap64 (a0_1 * 60)))) - (wrap64 (t229 * 86400)))) (⟨#[43]⟩ : ByteArray) a0_1)) else (some (⟨#[]⟩ : ByteArray))))) = some r := by rw [if_neg (show ¬ (false = true) by decide)] at H; exact H
    clear H
    have H := H1
    clear H1
    replace H := Option.bind_eq_some_iff.mp H
    obtain ⟨t229, A120, H⟩ := H
    replace H : ((date_civil.f kj1 t229).bind fun bt230 => (if bt230.2.2.2 = true then (if a0_1 < 0 then (date_Internal.j1 kj1 bt230.1 bt230.2.1 bt230.2.2.1 (wrap64 ((wrap64 (a0_0 + (wrap64 (a0_1 * 60)))) - (wrap64 (t229 * 86400)))) (⟨#[45]⟩ : ByteArray) (wrap64 (-a0_1))) else (date_Internal.j1 kj1 bt230.1 bt230.2.1 bt230.2.2.1 (wrap64 ((wrap64 (a0_0 + (wrap64 (a0_1 * 60)))) - (wrap64 (t229 * 86400)))) (⟨#[43]⟩ : ByteArray) a0_1)) else (some (⟨#[]⟩ : ByteArray)))) = some r := H
    have A12 := Aside0.mk A120
    clear A120
    replace H := Option.bind_eq_some_iff.mp H
    obtain ⟨⟨t230, t231, t232, t233⟩, A130, H⟩ := H
    replace H : (if t233 = true then (if a0_1 < 0 then (date_Internal.j1 kj1 t230 t231 t232 (wrap64 ((wrap64 (a0_0 + (wrap64 (a0_1 * 60)))) - (wrap64 (t229 * 86400)))) (⟨#[45]⟩ : ByteArray) (wrap64 (-a0_1))) else (date_Internal.j1 kj1 t230 t231 t232 (wrap64 ((wrap64 (a0_0 + (wrap64 (a0_1 * 60)))) - (wrap64 (t229 * 86400)))) (⟨#[43]⟩ : ByteArray) a0_1)) else (some (⟨#[]⟩ : ByteArray))) = some r := H
    have A13 := Aside0.mk A130
    clear A130
    by_cases c14 : t233 = true
    ·subst c14
     have H1 : (if a0_1 < 0 then (date_Internal.j1 kj1 t230 t231 t232 (wrap64 ((wrap64 (a0_0 + (wrap64 (a0_1 * 60)))) - (wrap64 (t229 * 86400)))) (⟨#[45]⟩ : ByteArray) (wrap64 (-a0_1))) else (date_Internal.j1 kj1 t230 t231 t232 (wrap64 ((wrap64 (a0_0 + (wrap64 (a0_1 * 60)))) - (wrap64 (t229 * 86400)))) (⟨#[43]⟩ : ByteArray) a0_1)) = some r := by rw [if_pos rfl] at H; exact H
     clear H
     have H := H1
     clear H1
     have HC15 := Aside0.mk H
     clear H
     obtain ⟨hcz16_0, hcz16_1, hfz16_0, hfz16_1⟩ := cz2_ BK228.out
     try go_wp2_with (first | ((with_reducible refine gate_callee (f := 38) rfl ?_); refine goesL_ (some 38) rfl rfl Tryd.func38 (by kernel_rfl) rfl #[.int .i64 (wrap64 (a0_0 + (wrap64 (a0_1 * 60)))), .int .i64 86400] rfl qa_ ?_; (with_reducible refine (date_floor.calls (wrap64 (a0_0 + (wrap64 (a0_1 * 60)))) 86400 t229 _ A12.out).mono ?_); rintro e w' ⟨rfl, ⟨nd, rfl⟩⟩; refine ⟨_, rfl, ?_⟩) | ((with_reducible refine gate_callee (f := 39) rfl ?_); refine goesL_ (some 41) rfl rfl Tryd.func39 (by kernel_rfl) rfl #[.int .i64 t229] rfl qa_ ?_; (with_reducible refine (date_civil.calls kj1 t229 t230 t231 t232 true _ A13.out).mono ?_); rintro e w' ⟨rfl, ⟨nd, rfl⟩⟩; refine ⟨_, rfl, ?_⟩))
     (try (rw [drewN_self wc]; generalize hq_ : World.drewN wc _ = wc; have n0_ : Aside0 (wc.heap[gb228]? = some (.cells #[.int .i64 a0_0, .int .i64 a0_1] 24 (0, 0))) := ⟨by rw [← hq_]; exact (qk_ BK228.out)⟩; have n1_ : Aside0 (Below w.heap.size w wc) := ⟨by rw [← hq_]; exact (qb_ HB.out)⟩; clear BK228 HB hq_; have BK228 := n0_; have HB := n1_; clear n0_ n1_))
     have n0_ := Aside0.mk (blk_drew BK228.out)
     have n1_ := Aside0.mk (below_drew1 HB.out)
     clear BK228
     clear HB
     have BK228 := n0_
     have HB := n1_
     clear n0_ n1_
     refine start_ (n := 4) (S := fun w' => w'.cell? ⟨gb228, 0, none⟩ = some (.int .i64 a0_0) ∧ w'.cell? ⟨gb228, 1, none⟩ = some (.int .i64 a0_1)) (ds := []) #[false, false, false, false] (by kernel_rfl) rfl rfl ⟨(blk_cell BK228.out 0).trans rfl, (blk_cell BK228.out 1).trans rfl⟩ (fun hHeld => ?_)
     generalize wc.drew = w17 at BK228 HB hHeld ⊢
     refine pure_ (i := 0) (N := some 52) (v := ?_) (a' := ?_) #[true, false, false, false] rfl rfl (by kernel_rfl) (fun _ _ _ h => h) (Or.inl ⟨by rfl, ?_⟩) ?_ ?_
     rotate_left
     ·intro w'
      go_simp
      with_reducible rfl
     rotate_left
     ·simp only [Act.put, List.setIfInBounds_toArray, List.set_cons_zero, List.set_cons_succ, i64_w, i32_w]
      rfl
     refine pure_ (i := 2) (N := some 10) (v := ?_) (a' := ?_) #[true, false, true, false] rfl rfl (by kernel_rfl) (fun _ _ _ h => h) (Or.inl ⟨by rfl, ?_⟩) ?_ ?_
     rotate_left
     ·intro w'
      go_simp
      with_reducible rfl
     rotate_left
     ·simp only [Act.put, List.setIfInBounds_toArray, List.set_cons_zero, List.set_cons_succ, i64_w, i32_w]
      rfl
     refine take_ (i := 1) (N := some 53) (v := ?_) (a' := ?_) #[true, true, true, false] rfl rfl (by kernel_rfl) (fun _ _ _ h => h) (Or.inl ⟨by rfl, ?_⟩) hHeld ?_ ?_
     rotate_left
     ·rintro w' ⟨s0, s1⟩
      go_simp
      with_reducible rfl
     rotate_left
     ·simp only [Act.put, List.setIfInBounds_toArray, List.set_cons_zero, List.set_cons_succ, i64_w, i32_w]
      rfl
     refine pure_ (i := 3) (N := some 11) (v := ?_) (a' := ?_) #[true, true, true, true] rfl rfl (by kernel_rfl) (fun _ _ _ h => h) (Or.inl ⟨by rfl, ?_⟩) ?_ ?_
     rotate_left
     ·intro w'
      go_simp
      with_reducible rfl
     rotate_left
     ·simp only [Act.put, List.setIfInBounds_toArray, List.set_cons_zero, List.set_cons_succ, i64_w, i32_w]
      rfl
     refine done_ (by kernel_rfl) ?_
     go_upto_if 55 with (fail)
     go_cut [10, 11] (fun v10 v11 wc => ∃ (kq : Nat) (x10_14 : ByteArray) (x11_14 : Int), v10 = .string x10_14 ∧ v11 = .int .i64 x11_14 ∧ Aside0 (date_Internal.j1 kq t230 t231 t232 (wrap64 ((wrap64 (a0_0 + (wrap64 (a0_1 * 60)))) - (wrap64 (t229 * 86400)))) x10_14 x11_14 = some r) ∧ Aside0 (kq ≤ kj1) ∧ Aside0 (wc.heap[gb228]? = some (.cells #[.int .i64 a0_0, .int .i64 a0_1] 24 (0, 0))) ∧ Aside0 (Below w.heap.size w wc))
     case first =>
      have H := HC15.out
      clear HC15
      by_cases c18 : a0_1 < 0
      ·rw [if_pos c18] at H
       have c18b0 : decide (a0_1 < 0) = true := decide_eq_true c18
       clear c18
       (first | rw [c18b0] | (simp only [i64_w, i32_w]; rw [c18b0]) | skip)
       have H' := Aside0.mk H
       clear H
       go_wp2
       go_meet
       case rel => exact ⟨_, ((⟨#[45]⟩ : ByteArray)), (wrap64 (-a0_1)), qr_, qr_, H', ⟨by have := HJ1.out; first | omega | exact Nat.le_refl _⟩, ⟨qk_ BK228.out⟩, ⟨qb_ HB.out⟩⟩
      ·rw [if_neg c18] at H
       have c18b0 : decide (a0_1 < 0) = false := decide_eq_false c18
       clear c18
       (first | rw [c18b0] | (simp only [i64_w, i32_w]; rw [c18b0]) | skip)
       have H' := Aside0.mk H
       clear H
       go_wp2
       go_meet
       case rel => exact ⟨_, ((⟨#[43]⟩ : ByteArray)), (a0_1), qr_, qr_, H', ⟨by have := HJ1.out; first | omega | exact Nat.le_refl _⟩, ⟨qk_ BK228.out⟩, ⟨qb_ HB.out⟩⟩
     case rest =>
      clear HC15
      (try clear c11 c14)
      obtain ⟨kq, x10_14, x11_14, rfl, rfl, HA, HJ14, BK228, HB⟩ := hcut
      cases kq with
      | zero => exact absurd HA.out (by simp [date_Internal.j1])
      | succ kj14 =>
       have H := HA.out
       clear HA
       simp only [date_Internal.j1] at H
       replace H := Option.bind_eq_some_iff.mp H
       obtain ⟨t234, A190, H⟩ := H
       replace H : (if t232 < 10 then ((chars_Digits.f kj14 t232).bind fun t235 => (if 1 + t235.size ≤ 9223372036854775807 then (date_Internal.j2 kj14 t230 t231 (wrap64 ((wrap64 (a0_0 + (wrap64 (a0_1 * 60)))) - (wrap64 (t229 * 86400)))) x10_14 x11_14 ((⟨#[32]⟩ : ByteArray) ++ t235)) else (none))) else (date_Internal.j2 kj14 t230 t231 (wrap64 ((wrap64 (a0_0 + (wrap64 (a0_1 * 60)))) - (wrap64 (t229 * 86400)))) x10_14 x11_14 t234)) = some r := H
       have A19 := Aside0.mk A190
       clear A190
       have HC20 := Aside0.mk H
       clear H
       go_upto_if 61 with (first | ((with_reducible refine gate_callee (f := 40) rfl ?_); refine goesL_ (some 59) rfl rfl Tryd.func40 (by kernel_rfl) rfl #[.int .i64 t232] rfl qa_ ?_; (with_reducible refine (date_two.calls t232 t234 _ A19.out).mono ?_); rintro e w21 ⟨rfl, hb⟩; refine ⟨_, rfl, ?_⟩; have n0_ := Aside0.mk (blk_below (g := gb228) (o := .cells #[.int .i64 a0_0, .int .i64 a0_1] 24 (0, 0)) (qk_ BK228.out) hb); have n1_ := Aside0.mk (below_step (qb_ HB.out) hb); clear BK228; clear HB; have BK228 := n0_; have HB := n1_; clear n0_ n1_; (try clear hb); (try clear hb2); (try clear hk); (try clear hi)))
       (try simp only [Act.put, List.setIfInBounds_toArray, List.set_cons_zero, List.set_cons_succ])
       go_cut [12] (fun v12 wc => ∃ (kq : Nat) (x12_19 : ByteArray), v12 = .string x12_19 ∧ Aside0 (date_Internal.j2 kq t230 t231 (wrap64 ((wrap64 (a0_0 + (wrap64 (a0_1 * 60)))) - (wrap64 (t229 * 86400)))) x10_14 x11_14 x12_19 = some r) ∧ Aside0 (kq ≤ kj14) ∧ Aside0 (wc.heap[gb228]? = some (.cells #[.int .i64 a0_0, .int .i64 a0_1] 24 (0, 0))) ∧ Aside0 (Below w.heap.size w wc))
       case first =>
        have H := HC20.out
        clear HC20
        by_cases c22 : t232 < 10
        ·rw [if_pos c22] at H
         have c22b0 : decide (t232 < 10) = true := decide_eq_true c22
         clear c22
         (first | rw [c22b0] | (simp only [i64_w, i32_w]; rw [c22b0]) | skip)
         replace H := Option.bind_eq_some_iff.mp H
         obtain ⟨t235, A230, H⟩ := H
         replace H : (if 1 + t235.size ≤ 9223372036854775807 then (date_Internal.j2 kj14 t230 t231 (wrap64 ((wrap64 (a0_0 + (wrap64 (a0_1 * 60)))) - (wrap64 (t229 * 86400)))) x10_14 x11_14 ((⟨#[32]⟩ : ByteArray) ++ t235)) else (none)) = some r := H
         have A23 := Aside0.mk A230
         clear A230
         by_cases c24 : 1 + t235.size ≤ 9223372036854775807
         ·rw [if_pos c24] at H
          have c24b0 := eq_true c24
          have c24b1 : decide (1 + t235.size ≤ 9223372036854775807) = true := decide_eq_true c24
          try have c24b2 : (9223372036854775807 < 1 + t235.size) = False := eq_false (Nat.not_lt.2 c24)
          have H' := Aside0.mk H
          clear H
          go_wp2_with (first | ((with_reducible refine gate_callee (f := 41) rfl ?_); refine goesL_ (some 63) rfl rfl Tryd.func41 (by kernel_rfl) rfl #[.int .i64 t232] rfl qa_ ?_; (with_reducible refine (chars_Digits.calls kj14 t232 t235 _ A23.out).mono ?_); rintro e w25 ⟨rfl, hb⟩; refine ⟨_, rfl, ?_⟩; have n0_ := Aside0.mk (blk_below (g := gb228) (o := .cells #[.int .i64 a0_0, .int .i64 a0_1] 24 (0, 0)) (qk_ BK228.out) hb); have n1_ := Aside0.mk (below_step (qb_ HB.out) hb); clear BK228; clear HB; have BK228 := n0_; have HB := n1_; clear n0_ n1_; (try clear hb); (try clear hb2); (try clear hk); (try clear hi)))
          go_meet
          case rel => exact ⟨_, ((⟨#[32]⟩ : ByteArray) ++ t235), qr_, H', ⟨by have := HJ1.out; have := HJ14.out; first | omega | exact Nat.le_refl _⟩, ⟨qk_ BK228.out⟩, ⟨qb_ HB.out⟩⟩
         ·rw [if_neg c24] at H
          exact absurd H (by simp)
        ·rw [if_neg c22] at H
         have c22b0 : decide (t232 < 10) = false := decide_eq_false c22
         clear c22
         (first | rw [c22b0] | (simp only [i64_w, i32_w]; rw [c22b0]) | skip)
         have H' := Aside0.mk H
         clear H
         go_wp2
         go_meet
         case rel => exact ⟨_, (t234), qr_, H', ⟨by have := HJ1.out; have := HJ14.out; first | omega | exact Nat.le_refl _⟩, ⟨qk_ BK228.out⟩, ⟨qb_ HB.out⟩⟩
       case rest =>
        clear HC20
        obtain ⟨kq, x12_19, rfl, HA, HJ19, BK228, HB⟩ := hcut
        cases kq with
        | zero => exact absurd HA.out (by simp [date_Internal.j2])
        | succ kj19 =>
         have H := HA.out
         clear HA
         simp only [date_Internal.j2] at H
         by_cases c26 : 1 + x12_19.size ≤ 9223372036854775807
         ·rw [if_pos c26] at H
          have c26b0 := eq_true c26
          have c26b1 : decide (1 + x12_19.size ≤ 9223372036854775807) = true := decide_eq_true c26
          try have c26b2 : (9223372036854775807 < 1 + x12_19.size) = False := eq_false (Nat.not_lt.2 c26)
          by_cases c27 : ((⟨#[34]⟩ : ByteArray) ++ x12_19).size + 1 ≤ 9223372036854775807
          ·rw [if_pos c27] at H
           have c27b0 := eq_true c27
           have c27b1 : decide (((⟨#[34]⟩ : ByteArray) ++ x12_19).size + 1 ≤ 9223372036854775807) = true := decide_eq_true c27
           try have c27b2 : (9223372036854775807 < ((⟨#[34]⟩ : ByteArray) ++ x12_19).size + 1) = False := eq_false (Nat.not_lt.2 c27)
           try have c27b4 : (9223372036854775807 < 1 + x12_19.size + 1) = False := eq_false (Nat.not_lt.2 (by have h_ := c27; simp only [ByteArray.size_append] at h_; exact h_))
           by_cases c28 : 0 ≤ t231
           ·rw [if_pos c28] at H
            have c28b0 : decide (0 ≤ t231) = true := decide_eq_true c28
            clear c28
            by_cases c29 : t231 < 12
            ·rw [if_pos c29] at H
             have c29b0 : decide (t231 < 12) = true := decide_eq_true c29
             clear c29
             by_cases c31 : (((⟨#[34]⟩ : ByteArray) ++ x12_19) ++ (⟨#[45]⟩ : ByteArray)).size + (mo_word t231).size ≤ 9223372036854775807
             ·rw [if_pos c31] at H
              have c31b0 := eq_true c31
              have c31b1 : decide ((((⟨#[34]⟩ : ByteArray) ++ x12_19) ++ (⟨#[45]⟩ : ByteArray)).size + (mo_word t231).size ≤ 9223372036854775807) = true := decide_eq_true c31
              try have c31b2 : (9223372036854775807 < (((⟨#[34]⟩ : ByteArray) ++ x12_19) ++ (⟨#[45]⟩ : ByteArray)).size + (mo_word t231).size) = False := eq_false (Nat.not_lt.2 c31)
              try have c31b4 : (9223372036854775807 < 1 + x12_19.size + 1 + (mo_word t231).size) = False := eq_false (Nat.not_lt.2 (by have h_ := c31; simp only [ByteArray.size_append] at h_; exact h_))
              by_cases c32 : ((((⟨#[34]⟩ : ByteArray) ++ x12_19) ++ (⟨#[45]⟩ : ByteArray)) ++ (mo_word t231)).size + 1 ≤ 9223372036854775807
              ·rw [if_pos c32] at H
               have c32b0 := eq_true c32
               have c32b1 : decide (((((⟨#[34]⟩ : ByteArray) ++ x12_19) ++ (⟨#[45]⟩ : ByteArray)) ++ (mo_word t231)).size + 1 ≤ 9223372036854775807) = true := decide_eq_true c32
               try have c32b2 : (9223372036854775807 < ((((⟨#[34]⟩ : ByteArray) ++ x12_19) ++ (⟨#[45]⟩ : ByteArray)) ++ (mo_word t231)).size + 1) = False := eq_false (Nat.not_lt.2 c32)
               try have c32b4 : (9223372036854775807 < 1 + x12_19.size + 1 + (mo_word t231).size + 1) = False := eq_false (Nat.not_lt.2 (by have h_ := c32; simp only [ByteArray.size_append] at h_; exact h_))
               replace H := Option.bind_eq_some_iff.mp H
               obtain ⟨t236, A330, H⟩ := H
               replace H : (if (((((⟨#[34]⟩ : ByteArray) ++ x12_19) ++ (⟨#[45]⟩ : ByteArray)) ++ (mo_word t231)) ++ (⟨#[45]⟩ : ByteArray)).size + t236.size ≤ 9223372036854775807 then ((date_two.f (Int.tmod t230 100)).bind fun t237 => (if ((((((⟨#[34]⟩ : ByteArray) ++ x12_19) ++ (⟨#[45]⟩ : ByteArray)) ++ (mo_word t231)) ++ (⟨#[45]⟩ : ByteArray)) ++ t236).size + t237.size ≤ 9223372036854775807 then (if (((((((⟨#[34]⟩ : ByteArray) ++ x12_19) ++ (⟨#[45]⟩ : ByteArray)) ++ (mo_word t231)) ++ (⟨#[45]⟩ : ByteArray)) ++ t236) ++ t237).size + 1 ≤ 9223372036854775807 then ((date_two.f (wrap64 (Int.tdiv (wrap64 ((wrap64 (a0_0 + (wrap64 (a0_1 * 60)))) - (wrap64 (t229 * 86400)))) 3600))).bind fun t238 => (if ((((((((⟨#[34]⟩ : ByteArray) ++ x12_19) ++ (⟨#[45]⟩ : ByteArray)) ++ (mo_word t231)) ++ (⟨#[45]⟩ : ByteArray)) ++ t236) ++ t237) ++ (⟨#[32]⟩ : ByteArray)).size + t238.size ≤ 9223372036854775807 then (if (((((((((⟨#[34]⟩ : ByteArray) ++ x12_19) ++ (⟨#[45]⟩ : ByteArray)) ++ (mo_word t231)) ++ (⟨#[45]⟩ : ByteArray)) ++ t236) ++ t237) ++ (⟨#[32]⟩ : ByteArray)) ++ t238).size + 1 ≤ 9223372036854775807 then ((date_two.f (Int.tmod (wrap64 (Int.tdiv (wrap64 ((wrap64 (a0_0 + (wrap64 (a0_1 * 60)))) - (wrap64 (t229 * 86400)))) 60)) 60)).bind fun t239 => (if ((((((((((⟨#[34]⟩ : ByteArray) ++ x12_19) ++ (⟨#[45]⟩ : ByteArray)) ++ (mo_word t231)) ++ (⟨#[45]⟩ : ByteArray)) ++ t236) ++ t237) ++ (⟨#[32]⟩ : ByteArray)) ++ t238) ++ (⟨#[58]⟩ : ByteArray)).size + t239.size ≤ 9223372036854775807 then (if (((((((((((⟨#[34]⟩ : ByteArray) ++ x12_19) ++ (⟨#[45]⟩ : ByteArray)) ++ (mo_word t231)) ++ (⟨#[45]⟩ : ByteArray)) ++ t236) ++ t237) ++ (⟨#[32]⟩ : ByteArray)) ++ t238) ++ (⟨#[58]⟩ : ByteArray)) ++ t239).size + 1 ≤ 9223372036854775807 then ((date_two.f (Int.tmod (wrap64 ((wrap64 (a0_0 + (wrap64 (a0_1 * 60)))) - (wrap64 (t229 * 86400)))) 60)).bind fun t240 => (if ((((((((((((⟨#[34]⟩ : ByteArray) ++ x12_19) ++ (⟨#[45]⟩ : ByteArray)) ++ (mo_word t231)) ++ (⟨#[45]⟩ : ByteArray)) ++ t236) ++ t237) ++ (⟨#[32]⟩ : ByteArray)) ++ t238) ++ (⟨#[58]⟩ : ByteArray)) ++ t239) ++ (⟨#[58]⟩ : ByteArray)).size + t240.size ≤ 9223372036854775807 then (if (((((((((((((⟨#[34]⟩ : ByteArray) ++ x12_19) ++ (⟨#[45]⟩ : ByteArray)) ++ (mo_word t231)) ++ (⟨#[45]⟩ : ByteArray)) ++ t236) ++ t237) ++ (⟨#[32]⟩ : ByteArray)) ++ t238) ++ (⟨#[58]⟩ : ByteArray)) ++ t239) ++ (⟨#[58]⟩ : ByteArray)) ++ t240).size + 1 ≤ 9223372036854775807 then (if ((((((((((((((⟨#[34]⟩ : ByteArray) ++ x12_19) ++ (⟨#[45]⟩ : ByteArray)) ++ (mo_word t231)) ++ (⟨#[45]⟩ : ByteArray)) ++ t236) ++ t237) ++ (⟨#[32]⟩ : ByteArray)) ++ t238) ++ (⟨#[58]⟩ : ByteArray)) ++ t239) ++ (⟨#[58]⟩ : ByteArray)) ++ t240) ++ (⟨#[32]⟩ : ByteArray)).size + x10_14.size ≤ 9223372036854775807 then ((date_two.f (wrap64 (Int.tdiv x11_14 60))).bind fun t241 => (if (((((((((((((((⟨#[34]⟩ : ByteArray) ++ x12_19) ++ (⟨#[45]⟩ : ByteArray)) ++ (mo_word t231)) ++ (⟨#[45]⟩ : ByteArray)) ++ t236) ++ t237) ++ (⟨#[32]⟩ : ByteArray)) ++ t238) ++ (⟨#[58]⟩ : ByteArray)) ++ t239) ++ (⟨#[58]⟩ : ByteArray)) ++ t240) ++ (⟨#[32]⟩ : ByteArray)) ++ x10_14).size + t241.size ≤ 9223372036854775807 then ((date_two.f (Int.tmod x11_14 60)).bind fun t242 => (if ((((((((((((((((⟨#[34]⟩ : ByteArray) ++ x12_19) ++ (⟨#[45]⟩ : ByteArray)) ++ (mo_word t231)) ++ (⟨#[45]⟩ : ByteArray)) ++ t236) ++ t237) ++ (⟨#[32]⟩ : ByteArray)) ++ t238) ++ (⟨#[58]⟩ : ByteArray)) ++ t239) ++ (⟨#[58]⟩ : ByteArray)) ++ t240) ++ (⟨#[32]⟩ : ByteArray)) ++ x10_14) ++ t241).size + t242.size ≤ 9223372036854775807 then (if (((((((((((((((((⟨#[34]⟩ : ByteArray) ++ x12_19) ++ (⟨#[45]⟩ : ByteArray)) ++ (mo_word t231)) ++ (⟨#[45]⟩ : ByteArray)) ++ t236) ++ t237) ++ (⟨#[32]⟩ : ByteArray)) ++ t238) ++ (⟨#[58]⟩ : ByteArray)) ++ t239) ++ (⟨#[58]⟩ : ByteArray)) ++ t240) ++ (⟨#[32]⟩ : ByteArray)) ++ x10_14) ++ t241) ++ t242).size + 1 ≤ 9223372036854775807 then (some ((((((((((((((((((⟨#[34]⟩ : ByteArray) ++ x12_19) ++ (⟨#[45]⟩ : ByteArray)) ++ (mo_word t231)) ++ (⟨#[45]⟩ : ByteArray)) ++ t236) ++ t237) ++ (⟨#[32]⟩ : ByteArray)) ++ t238) ++ (⟨#[58]⟩ : ByteArray)) ++ t239) ++ (⟨#[58]⟩ : ByteArray)) ++ t240) ++ (⟨#[32]⟩ : ByteArray)) ++ x10_14) ++ t241) ++ t242) ++ (⟨#[34]⟩ : ByteArray))) else (none)) else (none))) else (none))) else (none)) else (none)) else (none))) else (none)) else (none))) else (none)) else (none))) else (none)) else (none))) else (none)) = some r := H
               have A33 := Aside0.mk A330
               clear A330
               by_cases c34 : (((((⟨#[34]⟩ : ByteArray) ++ x12_19) ++ (⟨#[45]⟩ : ByteArray)) ++ (mo_word t231)) ++ (⟨#[45]⟩ : ByteArray)).size + t236.size ≤ 9223372036854775807
               ·rw [if_pos c34] at H
                have c34b0 := eq_true c34
                have c34b1 : decide ((((((⟨#[34]⟩ : ByteArray) ++ x12_19) ++ (⟨#[45]⟩ : ByteArray)) ++ (mo_word t231)) ++ (⟨#[45]⟩ : ByteArray)).size + t236.size ≤ 9223372036854775807) = true := decide_eq_true c34
                try have c34b2 : (9223372036854775807 < (((((⟨#[34]⟩ : ByteArray) ++ x12_19) ++ (⟨#[45]⟩ : ByteArray)) ++ (mo_word t231)) ++ (⟨#[45]⟩ : ByteArray)).size + t236.size) = False := eq_false (Nat.not_lt.2 c34)
                try have c34b4 : (9223372036854775807 < 1 + x12_19.size + 1 + (mo_word t231).size + 1 + t236.size) = False := eq_false (Nat.not_lt.2 (by have h_ := c34; simp only [ByteArray.size_append] at h_; exact h_))
                replace H := Option.bind_eq_some_iff.mp H
                obtain ⟨t237, A350, H⟩ := H
                replace H : (if ((((((⟨#[34]⟩ : ByteArray) ++ x12_19) ++ (⟨#[45]⟩ : ByteArray)) ++ (mo_word t231)) ++ (⟨#[45]⟩ : ByteArray)) ++ t236).size + t237.size ≤ 9223372036854775807 then (if (((((((⟨#[34]⟩ : ByteArray) ++ x12_19) ++ (⟨#[45]⟩ : ByteArray)) ++ (mo_word t231)) ++ (⟨#[45]⟩ : ByteArray)) ++ t236) ++ t237).size + 1 ≤ 9223372036854775807 then ((date_two.f (wrap64 (Int.tdiv (wrap64 ((wrap64 (a0_0 + (wrap64 (a0_1 * 60)))) - (wrap64 (t229 * 86400)))) 3600))).bind fun t238 => (if ((((((((⟨#[34]⟩ : ByteArray) ++ x12_19) ++ (⟨#[45]⟩ : ByteArray)) ++ (mo_word t231)) ++ (⟨#[45]⟩ : ByteArray)) ++ t236) ++ t237) ++ (⟨#[32]⟩ : ByteArray)).size + t238.size ≤ 9223372036854775807 then (if (((((((((⟨#[34]⟩ : ByteArray) ++ x12_19) ++ (⟨#[45]⟩ : ByteArray)) ++ (mo_word t231)) ++ (⟨#[45]⟩ : ByteArray)) ++ t236) ++ t237) ++ (⟨#[32]⟩ : ByteArray)) ++ t238).size + 1 ≤ 9223372036854775807 then ((date_two.f (Int.tmod (wrap64 (Int.tdiv (wrap64 ((wrap64 (a0_0 + (wrap64 (a0_1 * 60)))) - (wrap64 (t229 * 86400)))) 60)) 60)).bind fun t239 => (if ((((((((((⟨#[34]⟩ : ByteArray) ++ x12_19) ++ (⟨#[45]⟩ : ByteArray)) ++ (mo_word t231)) ++ (⟨#[45]⟩ : ByteArray)) ++ t236) ++ t237) ++ (⟨#[32]⟩ : ByteArray)) ++ t238) ++ (⟨#[58]⟩ : ByteArray)).size + t239.size ≤ 9223372036854775807 then (if (((((((((((⟨#[34]⟩ : ByteArray) ++ x12_19) ++ (⟨#[45]⟩ : ByteArray)) ++ (mo_word t231)) ++ (⟨#[45]⟩ : ByteArray)) ++ t236) ++ t237) ++ (⟨#[32]⟩ : ByteArray)) ++ t238) ++ (⟨#[58]⟩ : ByteArray)) ++ t239).size + 1 ≤ 9223372036854775807 then ((date_two.f (Int.tmod (wrap64 ((wrap64 (a0_0 + (wrap64 (a0_1 * 60)))) - (wrap64 (t229 * 86400)))) 60)).bind fun t240 => (if ((((((((((((⟨#[34]⟩ : ByteArray) ++ x12_19) ++ (⟨#[45]⟩ : ByteArray)) ++ (mo_word t231)) ++ (⟨#[45]⟩ : ByteArray)) ++ t236) ++ t237) ++ (⟨#[32]⟩ : ByteArray)) ++ t238) ++ (⟨#[58]⟩ : ByteArray)) ++ t239) ++ (⟨#[58]⟩ : ByteArray)).size + t240.size ≤ 9223372036854775807 then (if (((((((((((((⟨#[34]⟩ : ByteArray) ++ x12_19) ++ (⟨#[45]⟩ : ByteArray)) ++ (mo_word t231)) ++ (⟨#[45]⟩ : ByteArray)) ++ t236) ++ t237) ++ (⟨#[32]⟩ : ByteArray)) ++ t238) ++ (⟨#[58]⟩ : ByteArray)) ++ t239) ++ (⟨#[58]⟩ : ByteArray)) ++ t240).size + 1 ≤ 9223372036854775807 then (if ((((((((((((((⟨#[34]⟩ : ByteArray) ++ x12_19) ++ (⟨#[45]⟩ : ByteArray)) ++ (mo_word t231)) ++ (⟨#[45]⟩ : ByteArray)) ++ t236) ++ t237) ++ (⟨#[32]⟩ : ByteArray)) ++ t238) ++ (⟨#[58]⟩ : ByteArray)) ++ t239) ++ (⟨#[58]⟩ : ByteArray)) ++ t240) ++ (⟨#[32]⟩ : ByteArray)).size + x10_14.size ≤ 9223372036854775807 then ((date_two.f (wrap64 (Int.tdiv x11_14 60))).bind fun t241 => (if (((((((((((((((⟨#[34]⟩ : ByteArray) ++ x12_19) ++ (⟨#[45]⟩ : ByteArray)) ++ (mo_word t231)) ++ (⟨#[45]⟩ : ByteArray)) ++ t236) ++ t237) ++ (⟨#[32]⟩ : ByteArray)) ++ t238) ++ (⟨#[58]⟩ : ByteArray)) ++ t239) ++ (⟨#[58]⟩ : ByteArray)) ++ t240) ++ (⟨#[32]⟩ : ByteArray)) ++ x10_14).size + t241.size ≤ 9223372036854775807 then ((date_two.f (Int.tmod x11_14 60)).bind fun t242 => (if ((((((((((((((((⟨#[34]⟩ : ByteArray) ++ x12_19) ++ (⟨#[45]⟩ : ByteArray)) ++ (mo_word t231)) ++ (⟨#[45]⟩ : ByteArray)) ++ t236) ++ t237) ++ (⟨#[32]⟩ : ByteArray)) ++ t238) ++ (⟨#[58]⟩ : ByteArray)) ++ t239) ++ (⟨#[58]⟩ : ByteArray)) ++ t240) ++ (⟨#[32]⟩ : ByteArray)) ++ x10_14) ++ t241).size + t242.size ≤ 9223372036854775807 then (if (((((((((((((((((⟨#[34]⟩ : ByteArray) ++ x12_19) ++ (⟨#[45]⟩ : ByteArray)) ++ (mo_word t231)) ++ (⟨#[45]⟩ : ByteArray)) ++ t236) ++ t237) ++ (⟨#[32]⟩ : ByteArray)) ++ t238) ++ (⟨#[58]⟩ : ByteArray)) ++ t239) ++ (⟨#[58]⟩ : ByteArray)) ++ t240) ++ (⟨#[32]⟩ : ByteArray)) ++ x10_14) ++ t241) ++ t242).size + 1 ≤ 9223372036854775807 then (some ((((((((((((((((((⟨#[34]⟩ : ByteArray) ++ x12_19) ++ (⟨#[45]⟩ : ByteArray)) ++ (mo_word t231)) ++ (⟨#[45]⟩ : ByteArray)) ++ t236) ++ t237) ++ (⟨#[32]⟩ : ByteArray)) ++ t238) ++ (⟨#[58]⟩ : ByteArray)) ++ t239) ++ (⟨#[58]⟩ : ByteArray)) ++ t240) ++ (⟨#[32]⟩ : ByteArray)) ++ x10_14) ++ t241) ++ t242) ++ (⟨#[34]⟩ : ByteArray))) else (none)) else (none))) else (none))) else (none)) else (none)) else (none))) else (none)) else (none))) else (none)) else (none))) else (none)) else (none)) = some r := H
                have A35 := Aside0.mk A350
                clear A350
                by_cases c36 : ((((((⟨#[34]⟩ : ByteArray) ++ x12_19) ++ (⟨#[45]⟩ : ByteArray)) ++ (mo_word t231)) ++ (⟨#[45]⟩ : ByteArray)) ++ t236).size + t237.size ≤ 9223372036854775807
                ·rw [if_pos c36] at H
                 have c36b0 := eq_true c36
                 have c36b1 : decide (((((((⟨#[34]⟩ : ByteArray) ++ x12_19) ++ (⟨#[45]⟩ : ByteArray)) ++ (mo_word t231)) ++ (⟨#[45]⟩ : ByteArray)) ++ t236).size + t237.size ≤ 9223372036854775807) = true := decide_eq_true c36
                 try have c36b2 : (9223372036854775807 < ((((((⟨#[34]⟩ : ByteArray) ++ x12_19) ++ (⟨#[45]⟩ : ByteArray)) ++ (mo_word t231)) ++ (⟨#[45]⟩ : ByteArray)) ++ t236).size + t237.size) = False := eq_false (Nat.not_lt.2 c36)
                 try have c36b4 : (9223372036854775807 < 1 + x12_19.size + 1 + (mo_word t231).size + 1 + t236.size + t237.size) = False := eq_false (Nat.not_lt.2 (by have h_ := c36; simp only [ByteArray.size_append] at h_; exact h_))
                 by_cases c37 : (((((((⟨#[34]⟩ : ByteArray) ++ x12_19) ++ (⟨#[45]⟩ : ByteArray)) ++ (mo_word t231)) ++ (⟨#[45]⟩ : ByteArray)) ++ t236) ++ t237).size + 1 ≤ 9223372036854775807
                 ·rw [if_pos c37] at H
                  have c37b0 := eq_true c37
                  have c37b1 : decide ((((((((⟨#[34]⟩ : ByteArray) ++ x12_19) ++ (⟨#[45]⟩ : ByteArray)) ++ (mo_word t231)) ++ (⟨#[45]⟩ : ByteArray)) ++ t236) ++ t237).size + 1 ≤ 9223372036854775807) = true := decide_eq_true c37
                  try have c37b2 : (9223372036854775807 < (((((((⟨#[34]⟩ : ByteArray) ++ x12_19) ++ (⟨#[45]⟩ : ByteArray)) ++ (mo_word t231)) ++ (⟨#[45]⟩ : ByteArray)) ++ t236) ++ t237).size + 1) = False := eq_false (Nat.not_lt.2 c37)
                  try have c37b4 : (9223372036854775807 < 1 + x12_19.size + 1 + (mo_word t231).size + 1 + t236.size + t237.size + 1) = False := eq_false (Nat.not_lt.2 (by have h_ := c37; simp only [ByteArray.size_append] at h_; exact h_))
                  replace H := Option.bind_eq_some_iff.mp H
                  obtain ⟨t238, A380, H⟩ := H
                  replace H : (if ((((((((⟨#[34]⟩ : ByteArray) ++ x12_19) ++ (⟨#[45]⟩ : ByteArray)) ++ (mo_word t231)) ++ (⟨#[45]⟩ : ByteArray)) ++ t236) ++ t237) ++ (⟨#[32]⟩ : ByteArray)).size + t238.size ≤ 9223372036854775807 then (if (((((((((⟨#[34]⟩ : ByteArray) ++ x12_19) ++ (⟨#[45]⟩ : ByteArray)) ++ (mo_word t231)) ++ (⟨#[45]⟩ : ByteArray)) ++ t236) ++ t237) ++ (⟨#[32]⟩ : ByteArray)) ++ t238).size + 1 ≤ 9223372036854775807 then ((date_two.f (Int.tmod (wrap64 (Int.tdiv (wrap64 ((wrap64 (a0_0 + (wrap64 (a0_1 * 60)))) - (wrap64 (t229 * 86400)))) 60)) 60)).bind fun t239 => (if ((((((((((⟨#[34]⟩ : ByteArray) ++ x12_19) ++ (⟨#[45]⟩ : ByteArray)) ++ (mo_word t231)) ++ (⟨#[45]⟩ : ByteArray)) ++ t236) ++ t237) ++ (⟨#[32]⟩ : ByteArray)) ++ t238) ++ (⟨#[58]⟩ : ByteArray)).size + t239.size ≤ 9223372036854775807 then (if (((((((((((⟨#[34]⟩ : ByteArray) ++ x12_19) ++ (⟨#[45]⟩ : ByteArray)) ++ (mo_word t231)) ++ (⟨#[45]⟩ : ByteArray)) ++ t236) ++ t237) ++ (⟨#[32]⟩ : ByteArray)) ++ t238) ++ (⟨#[58]⟩ : ByteArray)) ++ t239).size + 1 ≤ 9223372036854775807 then ((date_two.f (Int.tmod (wrap64 ((wrap64 (a0_0 + (wrap64 (a0_1 * 60)))) - (wrap64 (t229 * 86400)))) 60)).bind fun t240 => (if ((((((((((((⟨#[34]⟩ : ByteArray) ++ x12_19) ++ (⟨#[45]⟩ : ByteArray)) ++ (mo_word t231)) ++ (⟨#[45]⟩ : ByteArray)) ++ t236) ++ t237) ++ (⟨#[32]⟩ : ByteArray)) ++ t238) ++ (⟨#[58]⟩ : ByteArray)) ++ t239) ++ (⟨#[58]⟩ : ByteArray)).size + t240.size ≤ 9223372036854775807 then (if (((((((((((((⟨#[34]⟩ : ByteArray) ++ x12_19) ++ (⟨#[45]⟩ : ByteArray)) ++ (mo_word t231)) ++ (⟨#[45]⟩ : ByteArray)) ++ t236) ++ t237) ++ (⟨#[32]⟩ : ByteArray)) ++ t238) ++ (⟨#[58]⟩ : ByteArray)) ++ t239) ++ (⟨#[58]⟩ : ByteArray)) ++ t240).size + 1 ≤ 9223372036854775807 then (if ((((((((((((((⟨#[34]⟩ : ByteArray) ++ x12_19) ++ (⟨#[45]⟩ : ByteArray)) ++ (mo_word t231)) ++ (⟨#[45]⟩ : ByteArray)) ++ t236) ++ t237) ++ (⟨#[32]⟩ : ByteArray)) ++ t238) ++ (⟨#[58]⟩ : ByteArray)) ++ t239) ++ (⟨#[58]⟩ : ByteArray)) ++ t240) ++ (⟨#[32]⟩ : ByteArray)).size + x10_14.size ≤ 9223372036854775807 then ((date_two.f (wrap64 (Int.tdiv x11_14 60))).bind fun t241 => (if (((((((((((((((⟨#[34]⟩ : ByteArray) ++ x12_19) ++ (⟨#[45]⟩ : ByteArray)) ++ (mo_word t231)) ++ (⟨#[45]⟩ : ByteArray)) ++ t236) ++ t237) ++ (⟨#[32]⟩ : ByteArray)) ++ t238) ++ (⟨#[58]⟩ : ByteArray)) ++ t239) ++ (⟨#[58]⟩ : ByteArray)) ++ t240) ++ (⟨#[32]⟩ : ByteArray)) ++ x10_14).size + t241.size ≤ 9223372036854775807 then ((date_two.f (Int.tmod x11_14 60)).bind fun t242 => (if ((((((((((((((((⟨#[34]⟩ : ByteArray) ++ x12_19) ++ (⟨#[45]⟩ : ByteArray)) ++ (mo_word t231)) ++ (⟨#[45]⟩ : ByteArray)) ++ t236) ++ t237) ++ (⟨#[32]⟩ : ByteArray)) ++ t238) ++ (⟨#[58]⟩ : ByteArray)) ++ t239) ++ (⟨#[58]⟩ : ByteArray)) ++ t240) ++ (⟨#[32]⟩ : ByteArray)) ++ x10_14) ++ t241).size + t242.size ≤ 9223372036854775807 then (if (((((((((((((((((⟨#[34]⟩ : ByteArray) ++ x12_19) ++ (⟨#[45]⟩ : ByteArray)) ++ (mo_word t231)) ++ (⟨#[45]⟩ : ByteArray)) ++ t236) ++ t237) ++ (⟨#[32]⟩ : ByteArray)) ++ t238) ++ (⟨#[58]⟩ : ByteArray)) ++ t239) ++ (⟨#[58]⟩ : ByteArray)) ++ t240) ++ (⟨#[32]⟩ : ByteArray)) ++ x10_14) ++ t241) ++ t242).size + 1 ≤ 9223372036854775807 then (some ((((((((((((((((((⟨#[34]⟩ : ByteArray) ++ x12_19) ++ (⟨#[45]⟩ : ByteArray)) ++ (mo_word t231)) ++ (⟨#[45]⟩ : ByteArray)) ++ t236) ++ t237) ++ (⟨#[32]⟩ : ByteArray)) ++ t238) ++ (⟨#[58]⟩ : ByteArray)) ++ t239) ++ (⟨#[58]⟩ : ByteArray)) ++ t240) ++ (⟨#[32]⟩ : ByteArray)) ++ x10_14) ++ t241) ++ t242) ++ (⟨#[34]⟩ : ByteArray))) else (none)) else (none))) else (none))) else (none)) else (none)) else (none))) else (none)) else (none))) else (none)) else (none)) = some r := H
                  have A38 := Aside0.mk A380
                  clear A380
                  by_cases c39 : ((((((((⟨#[34]⟩ : ByteArray) ++ x12_19) ++ (⟨#[45]⟩ : ByteArray)) ++ (mo_word t231)) ++ (⟨#[45]⟩ : ByteArray)) ++ t236) ++ t237) ++ (⟨#[32]⟩ : ByteArray)).size + t238.size ≤ 9223372036854775807
                  ·rw [if_pos c39] at H
                   have c39b0 := eq_true c39
                   have c39b1 : decide (((((((((⟨#[34]⟩ : ByteArray) ++ x12_19) ++ (⟨#[45]⟩ : ByteArray)) ++ (mo_word t231)) ++ (⟨#[45]⟩ : ByteArray)) ++ t236) ++ t237) ++ (⟨#[32]⟩ : ByteArray)).size + t238.size ≤ 9223372036854775807) = true := decide_eq_true c39
                   try have c39b2 : (9223372036854775807 < ((((((((⟨#[34]⟩ : ByteArray) ++ x12_19) ++ (⟨#[45]⟩ : ByteArray)) ++ (mo_word t231)) ++ (⟨#[45]⟩ : ByteArray)) ++ t236) ++ t237) ++ (⟨#[32]⟩ : ByteArray)).size + t238.size) = False := eq_false (Nat.not_lt.2 c39)
                   try have c39b4 : (9223372036854775807 < 1 + x12_19.size + 1 + (mo_word t231).size + 1 + t236.size + t237.size + 1 + t238.size) = False := eq_false (Nat.not_lt.2 (by have h_ := c39; simp only [ByteArray.size_append] at h_; exact h_))
                   by_cases c40 : (((((((((⟨#[34]⟩ : ByteArray) ++ x12_19) ++ (⟨#[45]⟩ : ByteArray)) ++ (mo_word t231)) ++ (⟨#[45]⟩ : ByteArray)) ++ t236) ++ t237) ++ (⟨#[32]⟩ : ByteArray)) ++ t238).size + 1 ≤ 9223372036854775807
                   ·rw [if_pos c40] at H
                    have c40b0 := eq_true c40
                    have c40b1 : decide ((((((((((⟨#[34]⟩ : ByteArray) ++ x12_19) ++ (⟨#[45]⟩ : ByteArray)) ++ (mo_word t231)) ++ (⟨#[45]⟩ : ByteArray)) ++ t236) ++ t237) ++ (⟨#[32]⟩ : ByteArray)) ++ t238).size + 1 ≤ 9223372036854775807) = true := decide_eq_true c40
                    try have c40b2 : (9223372036854775807 < (((((((((⟨#[34]⟩ : ByteArray) ++ x12_19) ++ (⟨#[45]⟩ : ByteArray)) ++ (mo_word t231)) ++ (⟨#[45]⟩ : ByteArray)) ++ t236) ++ t237) ++ (⟨#[32]⟩ : ByteArray)) ++ t238).size + 1) = False := eq_false (Nat.not_lt.2 c40)
                    try have c40b4 : (9223372036854775807 < 1 + x12_19.size + 1 + (mo_word t231).size + 1 + t236.size + t237.size + 1 + t238.size + 1) = False := eq_false (Nat.not_lt.2 (by have h_ := c40; simp only [ByteArray.size_append] at h_; exact h_))
                    replace H := Option.bind_eq_some_iff.mp H
                    obtain ⟨t239, A410, H⟩ := H
                    replace H : (if ((((((((((⟨#[34]⟩ : ByteArray) ++ x12_19) ++ (⟨#[45]⟩ : ByteArray)) ++ (mo_word t231)) ++ (⟨#[45]⟩ : ByteArray)) ++ t236) ++ t237) ++ (⟨#[32]⟩ : ByteArray)) ++ t238) ++ (⟨#[58]⟩ : ByteArray)).size + t239.size ≤ 9223372036854775807 then (if (((((((((((⟨#[34]⟩ : ByteArray) ++ x12_19) ++ (⟨#[45]⟩ : ByteArray)) ++ (mo_word t231)) ++ (⟨#[45]⟩ : ByteArray)) ++ t236) ++ t237) ++ (⟨#[32]⟩ : ByteArray)) ++ t238) ++ (⟨#[58]⟩ : ByteArray)) ++ t239).size + 1 ≤ 9223372036854775807 then ((date_two.f (Int.tmod (wrap64 ((wrap64 (a0_0 + (wrap64 (a0_1 * 60)))) - (wrap64 (t229 * 86400)))) 60)).bind fun t240 => (if ((((((((((((⟨#[34]⟩ : ByteArray) ++ x12_19) ++ (⟨#[45]⟩ : ByteArray)) ++ (mo_word t231)) ++ (⟨#[45]⟩ : ByteArray)) ++ t236) ++ t237) ++ (⟨#[32]⟩ : ByteArray)) ++ t238) ++ (⟨#[58]⟩ : ByteArray)) ++ t239) ++ (⟨#[58]⟩ : ByteArray)).size + t240.size ≤ 9223372036854775807 then (if (((((((((((((⟨#[34]⟩ : ByteArray) ++ x12_19) ++ (⟨#[45]⟩ : ByteArray)) ++ (mo_word t231)) ++ (⟨#[45]⟩ : ByteArray)) ++ t236) ++ t237) ++ (⟨#[32]⟩ : ByteArray)) ++ t238) ++ (⟨#[58]⟩ : ByteArray)) ++ t239) ++ (⟨#[58]⟩ : ByteArray)) ++ t240).size + 1 ≤ 9223372036854775807 then (if ((((((((((((((⟨#[34]⟩ : ByteArray) ++ x12_19) ++ (⟨#[45]⟩ : ByteArray)) ++ (mo_word t231)) ++ (⟨#[45]⟩ : ByteArray)) ++ t236) ++ t237) ++ (⟨#[32]⟩ : ByteArray)) ++ t238) ++ (⟨#[58]⟩ : ByteArray)) ++ t239) ++ (⟨#[58]⟩ : ByteArray)) ++ t240) ++ (⟨#[32]⟩ : ByteArray)).size + x10_14.size ≤ 9223372036854775807 then ((date_two.f (wrap64 (Int.tdiv x11_14 60))).bind fun t241 => (if (((((((((((((((⟨#[34]⟩ : ByteArray) ++ x12_19) ++ (⟨#[45]⟩ : ByteArray)) ++ (mo_word t231)) ++ (⟨#[45]⟩ : ByteArray)) ++ t236) ++ t237) ++ (⟨#[32]⟩ : ByteArray)) ++ t238) ++ (⟨#[58]⟩ : ByteArray)) ++ t239) ++ (⟨#[58]⟩ : ByteArray)) ++ t240) ++ (⟨#[32]⟩ : ByteArray)) ++ x10_14).size + t241.size ≤ 9223372036854775807 then ((date_two.f (Int.tmod x11_14 60)).bind fun t242 => (if ((((((((((((((((⟨#[34]⟩ : ByteArray) ++ x12_19) ++ (⟨#[45]⟩ : ByteArray)) ++ (mo_word t231)) ++ (⟨#[45]⟩ : ByteArray)) ++ t236) ++ t237) ++ (⟨#[32]⟩ : ByteArray)) ++ t238) ++ (⟨#[58]⟩ : ByteArray)) ++ t239) ++ (⟨#[58]⟩ : ByteArray)) ++ t240) ++ (⟨#[32]⟩ : ByteArray)) ++ x10_14) ++ t241).size + t242.size ≤ 9223372036854775807 then (if (((((((((((((((((⟨#[34]⟩ : ByteArray) ++ x12_19) ++ (⟨#[45]⟩ : ByteArray)) ++ (mo_word t231)) ++ (⟨#[45]⟩ : ByteArray)) ++ t236) ++ t237) ++ (⟨#[32]⟩ : ByteArray)) ++ t238) ++ (⟨#[58]⟩ : ByteArray)) ++ t239) ++ (⟨#[58]⟩ : ByteArray)) ++ t240) ++ (⟨#[32]⟩ : ByteArray)) ++ x10_14) ++ t241) ++ t242).size + 1 ≤ 9223372036854775807 then (some ((((((((((((((((((⟨#[34]⟩ : ByteArray) ++ x12_19) ++ (⟨#[45]⟩ : ByteArray)) ++ (mo_word t231)) ++ (⟨#[45]⟩ : ByteArray)) ++ t236) ++ t237) ++ (⟨#[32]⟩ : ByteArray)) ++ t238) ++ (⟨#[58]⟩ : ByteArray)) ++ t239) ++ (⟨#[58]⟩ : ByteArray)) ++ t240) ++ (⟨#[32]⟩ : ByteArray)) ++ x10_14) ++ t241) ++ t242) ++ (⟨#[34]⟩ : ByteArray))) else (none)) else (none))) else (none))) else (none)) else (none)) else (none))) else (none)) else (none)) = some r := H
                    have A41 := Aside0.mk A410
                    clear A410
                    by_cases c42 : ((((((((((⟨#[34]⟩ : ByteArray) ++ x12_19) ++ (⟨#[45]⟩ : ByteArray)) ++ (mo_word t231)) ++ (⟨#[45]⟩ : ByteArray)) ++ t236) ++ t237) ++ (⟨#[32]⟩ : ByteArray)) ++ t238) ++ (⟨#[58]⟩ : ByteArray)).size + t239.size ≤ 9223372036854775807
                    ·rw [if_pos c42] at H
                     have c42b0 := eq_true c42
                     have c42b1 : decide (((((((((((⟨#[34]⟩ : ByteArray) ++ x12_19) ++ (⟨#[45]⟩ : ByteArray)) ++ (mo_word t231)) ++ (⟨#[45]⟩ : ByteArray)) ++ t236) ++ t237) ++ (⟨#[32]⟩ : ByteArray)) ++ t238) ++ (⟨#[58]⟩ : ByteArray)).size + t239.size ≤ 9223372036854775807) = true := decide_eq_true c42
                     try have c42b2 : (9223372036854775807 < ((((((((((⟨#[34]⟩ : ByteArray) ++ x12_19) ++ (⟨#[45]⟩ : ByteArray)) ++ (mo_word t231)) ++ (⟨#[45]⟩ : ByteArray)) ++ t236) ++ t237) ++ (⟨#[32]⟩ : ByteArray)) ++ t238) ++ (⟨#[58]⟩ : ByteArray)).size + t239.size) = False := eq_false (Nat.not_lt.2 c42)
                     try have c42b4 : (9223372036854775807 < 1 + x12_19.size + 1 + (mo_word t231).size + 1 + t236.size + t237.size + 1 + t238.size + 1 + t239.size) = False := eq_false (Nat.not_lt.2 (by have h_ := c42; simp only [ByteArray.size_append] at h_; exact h_))
                     by_cases c43 : (((((((((((⟨#[34]⟩ : ByteArray) ++ x12_19) ++ (⟨#[45]⟩ : ByteArray)) ++ (mo_word t231)) ++ (⟨#[45]⟩ : ByteArray)) ++ t236) ++ t237) ++ (⟨#[32]⟩ : ByteArray)) ++ t238) ++ (⟨#[58]⟩ : ByteArray)) ++ t239).size + 1 ≤ 9223372036854775807
                     ·rw [if_pos c43] at H
                      have c43b0 := eq_true c43
                      have c43b1 : decide ((((((((((((⟨#[34]⟩ : ByteArray) ++ x12_19) ++ (⟨#[45]⟩ : ByteArray)) ++ (mo_word t231)) ++ (⟨#[45]⟩ : ByteArray)) ++ t236) ++ t237) ++ (⟨#[32]⟩ : ByteArray)) ++ t238) ++ (⟨#[58]⟩ : ByteArray)) ++ t239).size + 1 ≤ 9223372036854775807) = true := decide_eq_true c43
                      try have c43b2 : (9223372036854775807 < (((((((((((⟨#[34]⟩ : ByteArray) ++ x12_19) ++ (⟨#[45]⟩ : ByteArray)) ++ (mo_word t231)) ++ (⟨#[45]⟩ : ByteArray)) ++ t236) ++ t237) ++ (⟨#[32]⟩ : ByteArray)) ++ t238) ++ (⟨#[58]⟩ : ByteArray)) ++ t239).size + 1) = False := eq_false (Nat.not_lt.2 c43)
                      try have c43b4 : (9223372036854775807 < 1 + x12_19.size + 1 + (mo_word t231).size + 1 + t236.size + t237.size + 1 + t238.size + 1 + t239.size + 1) = False := eq_false (Nat.not_lt.2 (by have h_ := c43; simp only [ByteArray.size_append] at h_; exact h_))
                      replace H := Option.bind_eq_some_iff.mp H
                      obtain ⟨t240, A440, H⟩ := H
                      replace H : (if ((((((((((((⟨#[34]⟩ : ByteArray) ++ x12_19) ++ (⟨#[45]⟩ : ByteArray)) ++ (mo_word t231)) ++ (⟨#[45]⟩ : ByteArray)) ++ t236) ++ t237) ++ (⟨#[32]⟩ : ByteArray)) ++ t238) ++ (⟨#[58]⟩ : ByteArray)) ++ t239) ++ (⟨#[58]⟩ : ByteArray)).size + t240.size ≤ 9223372036854775807 then (if (((((((((((((⟨#[34]⟩ : ByteArray) ++ x12_19) ++ (⟨#[45]⟩ : ByteArray)) ++ (mo_word t231)) ++ (⟨#[45]⟩ : ByteArray)) ++ t236) ++ t237) ++ (⟨#[32]⟩ : ByteArray)) ++ t238) ++ (⟨#[58]⟩ : ByteArray)) ++ t239) ++ (⟨#[58]⟩ : ByteArray)) ++ t240).size + 1 ≤ 9223372036854775807 then (if ((((((((((((((⟨#[34]⟩ : ByteArray) ++ x12_19) ++ (⟨#[45]⟩ : ByteArray)) ++ (mo_word t231)) ++ (⟨#[45]⟩ : ByteArray)) ++ t236) ++ t237) ++ (⟨#[32]⟩ : ByteArray)) ++ t238) ++ (⟨#[58]⟩ : ByteArray)) ++ t239) ++ (⟨#[58]⟩ : ByteArray)) ++ t240) ++ (⟨#[32]⟩ : ByteArray)).size + x10_14.size ≤ 9223372036854775807 then ((date_two.f (wrap64 (Int.tdiv x11_14 60))).bind fun t241 => (if (((((((((((((((⟨#[34]⟩ : ByteArray) ++ x12_19) ++ (⟨#[45]⟩ : ByteArray)) ++ (mo_word t231)) ++ (⟨#[45]⟩ : ByteArray)) ++ t236) ++ t237) ++ (⟨#[32]⟩ : ByteArray)) ++ t238) ++ (⟨#[58]⟩ : ByteArray)) ++ t239) ++ (⟨#[58]⟩ : ByteArray)) ++ t240) ++ (⟨#[32]⟩ : ByteArray)) ++ x10_14).size + t241.size ≤ 9223372036854775807 then ((date_two.f (Int.tmod x11_14 60)).bind fun t242 => (if ((((((((((((((((⟨#[34]⟩ : ByteArray) ++ x12_19) ++ (⟨#[45]⟩ : ByteArray)) ++ (mo_word t231)) ++ (⟨#[45]⟩ : ByteArray)) ++ t236) ++ t237) ++ (⟨#[32]⟩ : ByteArray)) ++ t238) ++ (⟨#[58]⟩ : ByteArray)) ++ t239) ++ (⟨#[58]⟩ : ByteArray)) ++ t240) ++ (⟨#[32]⟩ : ByteArray)) ++ x10_14) ++ t241).size + t242.size ≤ 9223372036854775807 then (if (((((((((((((((((⟨#[34]⟩ : ByteArray) ++ x12_19) ++ (⟨#[45]⟩ : ByteArray)) ++ (mo_word t231)) ++ (⟨#[45]⟩ : ByteArray)) ++ t236) ++ t237) ++ (⟨#[32]⟩ : ByteArray)) ++ t238) ++ (⟨#[58]⟩ : ByteArray)) ++ t239) ++ (⟨#[58]⟩ : ByteArray)) ++ t240) ++ (⟨#[32]⟩ : ByteArray)) ++ x10_14) ++ t241) ++ t242).size + 1 ≤ 9223372036854775807 then (some ((((((((((((((((((⟨#[34]⟩ : ByteArray) ++ x12_19) ++ (⟨#[45]⟩ : ByteArray)) ++ (mo_word t231)) ++ (⟨#[45]⟩ : ByteArray)) ++ t236) ++ t237) ++ (⟨#[32]⟩ : ByteArray)) ++ t238) ++ (⟨#[58]⟩ : ByteArray)) ++ t239) ++ (⟨#[58]⟩ : ByteArray)) ++ t240) ++ (⟨#[32]⟩ : ByteArray)) ++ x10_14) ++ t241) ++ t242) ++ (⟨#[34]⟩ : ByteArray))) else (none)) else (none))) else (none))) else (none)) else (none)) else (none)) = some r := H
                      have A44 := Aside0.mk A440
                      clear A440
                      by_cases c45 : ((((((((((((⟨#[34]⟩ : ByteArray) ++ x12_19) ++ (⟨#[45]⟩ : ByteArray)) ++ (mo_word t231)) ++ (⟨#[45]⟩ : ByteArray)) ++ t236) ++ t237) ++ (⟨#[32]⟩ : ByteArray)) ++ t238) ++ (⟨#[58]⟩ : ByteArray)) ++ t239) ++ (⟨#[58]⟩ : ByteArray)).size + t240.size ≤ 9223372036854775807
                      ·rw [if_pos c45] at H
                       have c45b0 := eq_true c45
                       have c45b1 : decide (((((((((((((⟨#[34]⟩ : ByteArray) ++ x12_19) ++ (⟨#[45]⟩ : ByteArray)) ++ (mo_word t231)) ++ (⟨#[45]⟩ : ByteArray)) ++ t236) ++ t237) ++ (⟨#[32]⟩ : ByteArray)) ++ t238) ++ (⟨#[58]⟩ : ByteArray)) ++ t239) ++ (⟨#[58]⟩ : ByteArray)).size + t240.size ≤ 9223372036854775807) = true := decide_eq_true c45
                       try have c45b2 : (9223372036854775807 < ((((((((((((⟨#[34]⟩ : ByteArray) ++ x12_19) ++ (⟨#[45]⟩ : ByteArray)) ++ (mo_word t231)) ++ (⟨#[45]⟩ : ByteArray)) ++ t236) ++ t237) ++ (⟨#[32]⟩ : ByteArray)) ++ t238) ++ (⟨#[58]⟩ : ByteArray)) ++ t239) ++ (⟨#[58]⟩ : ByteArray)).size + t240.size) = False := eq_false (Nat.not_lt.2 c45)
                       try have c45b4 : (9223372036854775807 < 1 + x12_19.size + 1 + (mo_word t231).size + 1 + t236.size + t237.size + 1 + t238.size + 1 + t239.size + 1 + t240.size) = False := eq_false (Nat.not_lt.2 (by have h_ := c45; simp only [ByteArray.size_append] at h_; exact h_))
                       by_cases c46 : (((((((((((((⟨#[34]⟩ : ByteArray) ++ x12_19) ++ (⟨#[45]⟩ : ByteArray)) ++ (mo_word t231)) ++ (⟨#[45]⟩ : ByteArray)) ++ t236) ++ t237) ++ (⟨#[32]⟩ : ByteArray)) ++ t238) ++ (⟨#[58]⟩ : ByteArray)) ++ t239) ++ (⟨#[58]⟩ : ByteArray)) ++ t240).size + 1 ≤ 9223372036854775807
                       ·rw [if_pos c46] at H
                        have c46b0 := eq_true c46
                        have c46b1 : decide ((((((((((((((⟨#[34]⟩ : ByteArray) ++ x12_19) ++ (⟨#[45]⟩ : ByteArray)) ++ (mo_word t231)) ++ (⟨#[45]⟩ : ByteArray)) ++ t236) ++ t237) ++ (⟨#[32]⟩ : ByteArray)) ++ t238) ++ (⟨#[58]⟩ : ByteArray)) ++ t239) ++ (⟨#[58]⟩ : ByteArray)) ++ t240).size + 1 ≤ 9223372036854775807) = true := decide_eq_true c46
                        try have c46b2 : (9223372036854775807 < (((((((((((((⟨#[34]⟩ : ByteArray) ++ x12_19) ++ (⟨#[45]⟩ : ByteArray)) ++ (mo_word t231)) ++ (⟨#[45]⟩ : ByteArray)) ++ t236) ++ t237) ++ (⟨#[32]⟩ : ByteArray)) ++ t238) ++ (⟨#[58]⟩ : ByteArray)) ++ t239) ++ (⟨#[58]⟩ : ByteArray)) ++ t240).size + 1) = False := eq_false (Nat.not_lt.2 c46)
                        try have c46b4 : (9223372036854775807 < 1 + x12_19.size + 1 + (mo_word t231).size + 1 + t236.size + t237.size + 1 + t238.size + 1 + t239.size + 1 + t240.size + 1) = False := eq_false (Nat.not_lt.2 (by have h_ := c46; simp only [ByteArray.size_append] at h_; exact h_))
                        by_cases c47 : ((((((((((((((⟨#[34]⟩ : ByteArray) ++ x12_19) ++ (⟨#[45]⟩ : ByteArray)) ++ (mo_word t231)) ++ (⟨#[45]⟩ : ByteArray)) ++ t236) ++ t237) ++ (⟨#[32]⟩ : ByteArray)) ++ t238) ++ (⟨#[58]⟩ : ByteArray)) ++ t239) ++ (⟨#[58]⟩ : ByteArray)) ++ t240) ++ (⟨#[32]⟩ : ByteArray)).size + x10_14.size ≤ 9223372036854775807
                        ·rw [if_pos c47] at H
                         have c47b0 := eq_true c47
                         have c47b1 : decide (((((((((((((((⟨#[34]⟩ : ByteArray) ++ x12_19) ++ (⟨#[45]⟩ : ByteArray)) ++ (mo_word t231)) ++ (⟨#[45]⟩ : ByteArray)) ++ t236) ++ t237) ++ (⟨#[32]⟩ : ByteArray)) ++ t238) ++ (⟨#[58]⟩ : ByteArray)) ++ t239) ++ (⟨#[58]⟩ : ByteArray)) ++ t240) ++ (⟨#[32]⟩ : ByteArray)).size + x10_14.size ≤ 9223372036854775807) = true := decide_eq_true c47
                         try have c47b2 : (9223372036854775807 < ((((((((((((((⟨#[34]⟩ : ByteArray) ++ x12_19) ++ (⟨#[45]⟩ : ByteArray)) ++ (mo_word t231)) ++ (⟨#[45]⟩ : ByteArray)) ++ t236) ++ t237) ++ (⟨#[32]⟩ : ByteArray)) ++ t238) ++ (⟨#[58]⟩ : ByteArray)) ++ t239) ++ (⟨#[58]⟩ : ByteArray)) ++ t240) ++ (⟨#[32]⟩ : ByteArray)).size + x10_14.size) = False := eq_false (Nat.not_lt.2 c47)
                         try have c47b4 : (9223372036854775807 < 1 + x12_19.size + 1 + (mo_word t231).size + 1 + t236.size + t237.size + 1 + t238.size + 1 + t239.size + 1 + t240.size + 1 + x10_14.size) = False := eq_false (Nat.not_lt.2 (by have h_ := c47; simp only [ByteArray.size_append] at h_; exact h_))
                         replace H := Option.bind_eq_some_iff.mp H
                         obtain ⟨t241, A480, H⟩ := H
                         replace H : (if (((((((((((((((⟨#[34]⟩ : ByteArray) ++ x12_19) ++ (⟨#[45]⟩ : ByteArray)) ++ (mo_word t231)) ++ (⟨#[45]⟩ : ByteArray)) ++ t236) ++ t237) ++ (⟨#[32]⟩ : ByteArray)) ++ t238) ++ (⟨#[58]⟩ : ByteArray)) ++ t239) ++ (⟨#[58]⟩ : ByteArray)) ++ t240) ++ (⟨#[32]⟩ : ByteArray)) ++ x10_14).size + t241.size ≤ 9223372036854775807 then ((date_two.f (Int.tmod x11_14 60)).bind fun t242 => (if ((((((((((((((((⟨#[34]⟩ : ByteArray) ++ x12_19) ++ (⟨#[45]⟩ : ByteArray)) ++ (mo_word t231)) ++ (⟨#[45]⟩ : ByteArray)) ++ t236) ++ t237) ++ (⟨#[32]⟩ : ByteArray)) ++ t238) ++ (⟨#[58]⟩ : ByteArray)) ++ t239) ++ (⟨#[58]⟩ : ByteArray)) ++ t240) ++ (⟨#[32]⟩ : ByteArray)) ++ x10_14) ++ t241).size + t242.size ≤ 9223372036854775807 then (if (((((((((((((((((⟨#[34]⟩ : ByteArray) ++ x12_19) ++ (⟨#[45]⟩ : ByteArray)) ++ (mo_word t231)) ++ (⟨#[45]⟩ : ByteArray)) ++ t236) ++ t237) ++ (⟨#[32]⟩ : ByteArray)) ++ t238) ++ (⟨#[58]⟩ : ByteArray)) ++ t239) ++ (⟨#[58]⟩ : ByteArray)) ++ t240) ++ (⟨#[32]⟩ : ByteArray)) ++ x10_14) ++ t241) ++ t242).size + 1 ≤ 9223372036854775807 then (some ((((((((((((((((((⟨#[34]⟩ : ByteArray) ++ x12_19) ++ (⟨#[45]⟩ : ByteArray)) ++ (mo_word t231)) ++ (⟨#[45]⟩ : ByteArray)) ++ t236) ++ t237) ++ (⟨#[32]⟩ : ByteArray)) ++ t238) ++ (⟨#[58]⟩ : ByteArray)) ++ t239) ++ (⟨#[58]⟩ : ByteArray)) ++ t240) ++ (⟨#[32]⟩ : ByteArray)) ++ x10_14) ++ t241) ++ t242) ++ (⟨#[34]⟩ : ByteArray))) else (none)) else (none))) else (none)) = some r := H
                         have A48 := Aside0.mk A480
                         clear A480
                         by_cases c49 : (((((((((((((((⟨#[34]⟩ : ByteArray) ++ x12_19) ++ (⟨#[45]⟩ : ByteArray)) ++ (mo_word t231)) ++ (⟨#[45]⟩ : ByteArray)) ++ t236) ++ t237) ++ (⟨#[32]⟩ : ByteArray)) ++ t238) ++ (⟨#[58]⟩ : ByteArray)) ++ t239) ++ (⟨#[58]⟩ : ByteArray)) ++ t240) ++ (⟨#[32]⟩ : ByteArray)) ++ x10_14).size + t241.size ≤ 9223372036854775807
                         ·rw [if_pos c49] at H
                          have c49b0 := eq_true c49
                          have c49b1 : decide ((((((((((((((((⟨#[34]⟩ : ByteArray) ++ x12_19) ++ (⟨#[45]⟩ : ByteArray)) ++ (mo_word t231)) ++ (⟨#[45]⟩ : ByteArray)) ++ t236) ++ t237) ++ (⟨#[32]⟩ : ByteArray)) ++ t238) ++ (⟨#[58]⟩ : ByteArray)) ++ t239) ++ (⟨#[58]⟩ : ByteArray)) ++ t240) ++ (⟨#[32]⟩ : ByteArray)) ++ x10_14).size + t241.size ≤ 9223372036854775807) = true := decide_eq_true c49
                          try have c49b2 : (9223372036854775807 < (((((((((((((((⟨#[34]⟩ : ByteArray) ++ x12_19) ++ (⟨#[45]⟩ : ByteArray)) ++ (mo_word t231)) ++ (⟨#[45]⟩ : ByteArray)) ++ t236) ++ t237) ++ (⟨#[32]⟩ : ByteArray)) ++ t238) ++ (⟨#[58]⟩ : ByteArray)) ++ t239) ++ (⟨#[58]⟩ : ByteArray)) ++ t240) ++ (⟨#[32]⟩ : ByteArray)) ++ x10_14).size + t241.size) = False := eq_false (Nat.not_lt.2 c49)
                          try have c49b4 : (9223372036854775807 < 1 + x12_19.size + 1 + (mo_word t231).size + 1 + t236.size + t237.size + 1 + t238.size + 1 + t239.size + 1 + t240.size + 1 + x10_14.size + t241.size) = False := eq_false (Nat.not_lt.2 (by have h_ := c49; simp only [ByteArray.size_append] at h_; exact h_))
                          replace H := Option.bind_eq_some_iff.mp H
                          obtain ⟨t242, A500, H⟩ := H
                          replace H : (if ((((((((((((((((⟨#[34]⟩ : ByteArray) ++ x12_19) ++ (⟨#[45]⟩ : ByteArray)) ++ (mo_word t231)) ++ (⟨#[45]⟩ : ByteArray)) ++ t236) ++ t237) ++ (⟨#[32]⟩ : ByteArray)) ++ t238) ++ (⟨#[58]⟩ : ByteArray)) ++ t239) ++ (⟨#[58]⟩ : ByteArray)) ++ t240) ++ (⟨#[32]⟩ : ByteArray)) ++ x10_14) ++ t241).size + t242.size ≤ 9223372036854775807 then (if (((((((((((((((((⟨#[34]⟩ : ByteArray) ++ x12_19) ++ (⟨#[45]⟩ : ByteArray)) ++ (mo_word t231)) ++ (⟨#[45]⟩ : ByteArray)) ++ t236) ++ t237) ++ (⟨#[32]⟩ : ByteArray)) ++ t238) ++ (⟨#[58]⟩ : ByteArray)) ++ t239) ++ (⟨#[58]⟩ : ByteArray)) ++ t240) ++ (⟨#[32]⟩ : ByteArray)) ++ x10_14) ++ t241) ++ t242).size + 1 ≤ 9223372036854775807 then (some ((((((((((((((((((⟨#[34]⟩ : ByteArray) ++ x12_19) ++ (⟨#[45]⟩ : ByteArray)) ++ (mo_word t231)) ++ (⟨#[45]⟩ : ByteArray)) ++ t236) ++ t237) ++ (⟨#[32]⟩ : ByteArray)) ++ t238) ++ (⟨#[58]⟩ : ByteArray)) ++ t239) ++ (⟨#[58]⟩ : ByteArray)) ++ t240) ++ (⟨#[32]⟩ : ByteArray)) ++ x10_14) ++ t241) ++ t242) ++ (⟨#[34]⟩ : ByteArray))) else (none)) else (none)) = some r := H
                          have A50 := Aside0.mk A500
                          clear A500
                          by_cases c51 : ((((((((((((((((⟨#[34]⟩ : ByteArray) ++ x12_19) ++ (⟨#[45]⟩ : ByteArray)) ++ (mo_word t231)) ++ (⟨#[45]⟩ : ByteArray)) ++ t236) ++ t237) ++ (⟨#[32]⟩ : ByteArray)) ++ t238) ++ (⟨#[58]⟩ : ByteArray)) ++ t239) ++ (⟨#[58]⟩ : ByteArray)) ++ t240) ++ (⟨#[32]⟩ : ByteArray)) ++ x10_14) ++ t241).size + t242.size ≤ 9223372036854775807
                          ·rw [if_pos c51] at H
                           have c51b0 := eq_true c51
                           have c51b1 : decide (((((((((((((((((⟨#[34]⟩ : ByteArray) ++ x12_19) ++ (⟨#[45]⟩ : ByteArray)) ++ (mo_word t231)) ++ (⟨#[45]⟩ : ByteArray)) ++ t236) ++ t237) ++ (⟨#[32]⟩ : ByteArray)) ++ t238) ++ (⟨#[58]⟩ : ByteArray)) ++ t239) ++ (⟨#[58]⟩ : ByteArray)) ++ t240) ++ (⟨#[32]⟩ : ByteArray)) ++ x10_14) ++ t241).size + t242.size ≤ 9223372036854775807) = true := decide_eq_true c51
                           try have c51b2 : (9223372036854775807 < ((((((((((((((((⟨#[34]⟩ : ByteArray) ++ x12_19) ++ (⟨#[45]⟩ : ByteArray)) ++ (mo_word t231)) ++ (⟨#[45]⟩ : ByteArray)) ++ t236) ++ t237) ++ (⟨#[32]⟩ : ByteArray)) ++ t238) ++ (⟨#[58]⟩ : ByteArray)) ++ t239) ++ (⟨#[58]⟩ : ByteArray)) ++ t240) ++ (⟨#[32]⟩ : ByteArray)) ++ x10_14) ++ t241).size + t242.size) = False := eq_false (Nat.not_lt.2 c51)
                           try have c51b4 : (9223372036854775807 < 1 + x12_19.size + 1 + (mo_word t231).size + 1 + t236.size + t237.size + 1 + t238.size + 1 + t239.size + 1 + t240.size + 1 + x10_14.size + t241.size + t242.size) = False := eq_false (Nat.not_lt.2 (by have h_ := c51; simp only [ByteArray.size_append] at h_; exact h_))
                           by_cases c52 : (((((((((((((((((⟨#[34]⟩ : ByteArray) ++ x12_19) ++ (⟨#[45]⟩ : ByteArray)) ++ (mo_word t231)) ++ (⟨#[45]⟩ : ByteArray)) ++ t236) ++ t237) ++ (⟨#[32]⟩ : ByteArray)) ++ t238) ++ (⟨#[58]⟩ : ByteArray)) ++ t239) ++ (⟨#[58]⟩ : ByteArray)) ++ t240) ++ (⟨#[32]⟩ : ByteArray)) ++ x10_14) ++ t241) ++ t242).size + 1 ≤ 9223372036854775807
                           ·rw [if_pos c52] at H
                            have c52b0 := eq_true c52
                            have c52b1 : decide ((((((((((((((((((⟨#[34]⟩ : ByteArray) ++ x12_19) ++ (⟨#[45]⟩ : ByteArray)) ++ (mo_word t231)) ++ (⟨#[45]⟩ : ByteArray)) ++ t236) ++ t237) ++ (⟨#[32]⟩ : ByteArray)) ++ t238) ++ (⟨#[58]⟩ : ByteArray)) ++ t239) ++ (⟨#[58]⟩ : ByteArray)) ++ t240) ++ (⟨#[32]⟩ : ByteArray)) ++ x10_14) ++ t241) ++ t242).size + 1 ≤ 9223372036854775807) = true := decide_eq_true c52
                            try have c52b2 : (9223372036854775807 < (((((((((((((((((⟨#[34]⟩ : ByteArray) ++ x12_19) ++ (⟨#[45]⟩ : ByteArray)) ++ (mo_word t231)) ++ (⟨#[45]⟩ : ByteArray)) ++ t236) ++ t237) ++ (⟨#[32]⟩ : ByteArray)) ++ t238) ++ (⟨#[58]⟩ : ByteArray)) ++ t239) ++ (⟨#[58]⟩ : ByteArray)) ++ t240) ++ (⟨#[32]⟩ : ByteArray)) ++ x10_14) ++ t241) ++ t242).size + 1) = False := eq_false (Nat.not_lt.2 c52)
                            try have c52b4 : (9223372036854775807 < 1 + x12_19.size + 1 + (mo_word t231).size + 1 + t236.size + t237.size + 1 + t238.size + 1 + t239.size + 1 + t240.size + 1 + x10_14.size + t241.size + t242.size + 1) = False := eq_false (Nat.not_lt.2 (by have h_ := c52; simp only [ByteArray.size_append] at h_; exact h_))
                            obtain rfl := Option.some.inj H
                            try go_wp2
                            have n0_ := Aside0.mk (blk_drew BK228.out)
                            have n1_ := Aside0.mk (below_drew1 HB.out)
                            clear BK228
                            clear HB
                            have BK228 := n0_
                            have HB := n1_
                            clear n0_ n1_
                            have p30 : 0 ≤ (t231 : Int) := (qd_)
                            have q30 : (t231 : Int) < 12 := (qd_)
                            replace p30 := eq_true p30
                            replace q30 := eq_true q30
                            refine start_ (n := 45) (S := fun w' => w'.cell? ⟨0, (t231 : Int).toNat, none⟩ = some (.string (mo_word t231))) (ds := []) #[false, false, false, false, false, false, false, false, false, false, false, false, false, false, false, false, false, false, false, false, false, false, false, false, false, false, false, false, false, false, false, false, false, false, false, false, false, false, false, false, false, false, false, false, false] (by kernel_rfl) rfl rfl ((mo_at hL0 (qb_ HB.out) (j := t231) (qd_) (qd_))) (fun hHeld => ?_); refine with_tabW date_Internal.tab15 date_Internal.bits15 (fun HT_ HW_ => ?_)
                            generalize wc.drew = w53 at BK228 HB hHeld ⊢
                            refine pure_ (i := 0) (N := some 65) (v := ?_) (a' := ?_) #[true, false, false, false, false, false, false, false, false, false, false, false, false, false, false, false, false, false, false, false, false, false, false, false, false, false, false, false, false, false, false, false, false, false, false, false, false, false, false, false, false, false, false, false, false] rfl rfl (any_of HT_.out (by kernel_rfl)) (fun _ _ _ h => h) (Or.inl ⟨by rfl, ?_⟩) ?_ ?_
                            rotate_left
                            ·intro w'
                             go_simp
                             with_reducible rfl
                            rotate_left
                            ·simp only [Act.put, List.setIfInBounds_toArray, List.set_cons_zero, List.set_cons_succ, i64_w, i32_w]
                             rfl
                            refine pure_ (i := 1) (N := some 66) (v := ?_) (a' := ?_) #[true, true, false, false, false, false, false, false, false, false, false, false, false, false, false, false, false, false, false, false, false, false, false, false, false, false, false, false, false, false, false, false, false, false, false, false, false, false, false, false, false, false, false, false, false] rfl rfl (any_of HT_.out (by kernel_rfl)) (fun _ _ _ h => h) (Or.inl ⟨by rfl, ?_⟩) ?_ ?_
                            rotate_left
                            ·intro w'
                             go_simp
                             with_reducible rfl
                            rotate_left
                            ·simp only [Act.put, List.setIfInBounds_toArray, List.set_cons_zero, List.set_cons_succ, i64_w, i32_w]
                             rfl
                            refine pure_ (i := 2) (N := some 67) (v := ?_) (a' := ?_) #[true, true, true, false, false, false, false, false, false, false, false, false, false, false, false, false, false, false, false, false, false, false, false, false, false, false, false, false, false, false, false, false, false, false, false, false, false, false, false, false, false, false, false, false, false] rfl rfl (any_of HT_.out (by kernel_rfl)) (fun _ _ _ h => h) (Or.inl ⟨by rfl, ?_⟩) ?_ ?_
                            rotate_left
                            ·intro w'
                             go_simp
                             with_reducible rfl
                            rotate_left
                            ·simp only [Act.put, List.setIfInBounds_toArray, List.set_cons_zero, List.set_cons_succ, i64_w, i32_w]
                             rfl
                            refine pure_ (i := 3) (N := some 68) (v := ?_) (a' := ?_) #[true, true, true, true, false, false, false, false, false, false, false, false, false, false, false, false, false, false, false, false, false, false, false, false, false, false, false, false, false, false, false, false, false, false, false, false, false, false, false, false, false, false, false, false, false] rfl rfl (any_of HT_.out (by kernel_rfl)) (fun _ _ _ h => h) (Or.inl ⟨by rfl, ?_⟩) ?_ ?_
                            rotate_left
                            ·intro w'
                             go_simp
                             with_reducible rfl
                            rotate_left
                            ·simp only [Act.put, List.setIfInBounds_toArray, List.set_cons_zero, List.set_cons_succ, i64_w, i32_w]
                             rfl
                            refine pure_ (i := 4) (N := some 69) (v := ?_) (a' := ?_) #[true, true, true, true, true, false, false, false, false, false, false, false, false, false, false, false, false, false, false, false, false, false, false, false, false, false, false, false, false, false, false, false, false, false, false, false, false, false, false, false, false, false, false, false, false] rfl rfl (any_of HT_.out (by kernel_rfl)) (fun _ _ _ h => h) (Or.inl ⟨by rfl, ?_⟩) ?_ ?_
                            rotate_left
                            ·intro w'
                             go_simp
                             with_reducible rfl
                            rotate_left
                            ·simp only [Act.put, List.setIfInBounds_toArray, List.set_cons_zero, List.set_cons_succ, i64_w, i32_w]
                             rfl
                            refine pure_ (i := 8) (N := some 73) (v := ?_) (a' := ?_) #[true, true, true, true, true, false, false, false, true, false, false, false, false, false, false, false, false, false, false, false, false, false, false, false, false, false, false, false, false, false, false, false, false, false, false, false, false, false, false, false, false, false, false, false, false] rfl rfl (any_of HT_.out (by kernel_rfl)) (fun _ _ _ h => h) (Or.inl ⟨by rfl, ?_⟩) ?_ ?_
                            rotate_left
                            ·intro w'
                             go_simp
                             with_reducible rfl
                            rotate_left
                            ·simp only [Act.put, List.setIfInBounds_toArray, List.set_cons_zero, List.set_cons_succ, i64_w, i32_w]
                             rfl
                            refine pure_ (i := 9) (N := some 74) (v := ?_) (a' := ?_) #[true, true, true, true, true, false, false, false, true, true, false, false, false, false, false, false, false, false, false, false, false, false, false, false, false, false, false, false, false, false, false, false, false, false, false, false, false, false, false, false, false, false, false, false, false] rfl rfl (any_of HT_.out (by kernel_rfl)) (fun _ _ _ h => h) (Or.inl ⟨by rfl, ?_⟩) ?_ ?_
                            rotate_left
                            ·intro w'
                             go_simp
                             with_reducible rfl
                            rotate_left
                            ·simp only [Act.put, List.setIfInBounds_toArray, List.set_cons_zero, List.set_cons_succ, i64_w, i32_w]
                             rfl
                            refine pure_ (i := 12) (N := some 77) (v := ?_) (a' := ?_) #[true, true, true, true, true, false, false, false, true, true, false, false, true, false, false, false, false, false, false, false, false, false, false, false, false, false, false, false, false, false, false, false, false, false, false, false, false, false, false, false, false, false, false, false, false] rfl rfl (any_of HT_.out (by kernel_rfl)) (fun _ _ _ h => h) (Or.inl ⟨by rfl, ?_⟩) ?_ ?_
                            rotate_left
                            ·intro w'
                             go_simp
                             with_reducible rfl
                            rotate_left
                            ·simp only [Act.put, List.setIfInBounds_toArray, List.set_cons_zero, List.set_cons_succ, i64_w, i32_w]
                             rfl
                            refine pure_ (i := 13) (N := some 78) (v := ?_) (a' := ?_) #[true, true, true, true, true, false, false, false, true, true, false, false, true, true, false, false, false, false, false, false, false, false, false, false, false, false, false, false, false, false, false, false, false, false, false, false, false, false, false, false, false, false, false, false, false] rfl rfl (any_of HT_.out (by kernel_rfl)) (fun _ _ _ h => h) (Or.inl ⟨by rfl, ?_⟩) ?_ ?_
                            rotate_left
                            ·intro w'
                             go_simp
                             with_reducible rfl
                            rotate_left
                            ·simp only [Act.put, List.setIfInBounds_toArray, List.set_cons_zero, List.set_cons_succ, i64_w, i32_w]
                             rfl
                            refine pure_ (i := 17) (N := some 82) (v := ?_) (a' := ?_) #[true, true, true, true, true, false, false, false, true, true, false, false, true, true, false, false, false, true, false, false, false, false, false, false, false, false, false, false, false, false, false, false, false, false, false, false, false, false, false, false, false, false, false, false, false] rfl rfl (any_of HT_.out (by kernel_rfl)) (fun _ _ _ h => h) (Or.inl ⟨by rfl, ?_⟩) ?_ ?_
                            rotate_left
                            ·intro w'
                             go_simp
                             with_reducible rfl
                            rotate_left
                            ·simp only [Act.put, List.setIfInBounds_toArray, List.set_cons_zero, List.set_cons_succ, i64_w, i32_w]
                             rfl
                            refine pure_ (i := 18) (N := some 83) (v := ?_) (a' := ?_) #[true, true, true, true, true, false, false, false, true, true, false, false, true, true, false, false, false, true, true, false, false, false, false, false, false, false, false, false, false, false, false, false, false, false, false, false, false, false, false, false, false, false, false, false, false] rfl rfl (any_of HT_.out (by kernel_rfl)) (fun _ _ _ h => h) (Or.inl ⟨by rfl, ?_⟩) ?_ ?_
                            rotate_left
                            ·intro w'
                             go_simp
                             with_reducible rfl
                            rotate_left
                            ·simp only [Act.put, List.setIfInBounds_toArray, List.set_cons_zero, List.set_cons_succ, i64_w, i32_w]
                             rfl
                            refine pure_ (i := 22) (N := some 87) (v := ?_) (a' := ?_) #[true, true, true, true, true, false, false, false, true, true, false, false, true, true, false, false, false, true, true, false, false, false, true, false, false, false, false, false, false, false, false, false, false, false, false, false, false, false, false, false, false, false, false, false, false] rfl rfl (any_of HT_.out (by kernel_rfl)) (fun _ _ _ h => h) (Or.inl ⟨by rfl, ?_⟩) ?_ ?_
                            rotate_left
                            ·intro w'
                             go_simp
                             with_reducible rfl
                            rotate_left
                            ·simp only [Act.put, List.setIfInBounds_toArray, List.set_cons_zero, List.set_cons_succ, i64_w, i32_w]
                             rfl
                            refine pure_ (i := 23) (N := some 88) (v := ?_) (a' := ?_) #[true, true, true, true, true, false, false, false, true, true, false, false, true, true, false, false, false, true, true, false, false, false, true, true, false, false, false, false, false, false, false, false, false, false, false, false, false, false, false, false, false, false, false, false, false] rfl rfl (any_of HT_.out (by kernel_rfl)) (fun _ _ _ h => h) (Or.inl ⟨by rfl, ?_⟩) ?_ ?_
                            rotate_left
                            ·intro w'
                             go_simp
                             with_reducible rfl
                            rotate_left
                            ·simp only [Act.put, List.setIfInBounds_toArray, List.set_cons_zero, List.set_cons_succ, i64_w, i32_w]
                             rfl
                            refine pure_ (i := 24) (N := some 89) (v := ?_) (a' := ?_) #[true, true, true, true, true, false, false, false, true, true, false, false, true, true, false, false, false, true, true, false, false, false, true, true, true, false, false, false, false, false, false, false, false, false, false, false, false, false, false, false, false, false, false, false, false] rfl rfl (any_of HT_.out (by kernel_rfl)) (fun _ _ _ h => h) (Or.inl ⟨by rfl, ?_⟩) ?_ ?_
                            rotate_left
                            ·intro w'
                             go_simp
                             with_reducible rfl
                            rotate_left
                            ·simp only [Act.put, List.setIfInBounds_toArray, List.set_cons_zero, List.set_cons_succ, i64_w, i32_w]
                             rfl
                            refine pure_ (i := 28) (N := some 93) (v := ?_) (a' := ?_) #[true, true, true, true, true, false, false, false, true, true, false, false, true, true, false, false, false, true, true, false, false, false, true, true, true, false, false, false, true, false, false, false, false, false, false, false, false, false, false, false, false, false, false, false, false] rfl rfl (any_of HT_.out (by kernel_rfl)) (fun _ _ _ h => h) (Or.inl ⟨by rfl, ?_⟩) ?_ ?_
                            rotate_left
                            ·intro w'
                             go_simp
                             with_reducible rfl
                            rotate_left
                            ·simp only [Act.put, List.setIfInBounds_toArray, List.set_cons_zero, List.set_cons_succ, i64_w, i32_w]
                             rfl
                            refine pure_ (i := 29) (N := some 94) (v := ?_) (a' := ?_) #[true, true, true, true, true, false, false, false, true, true, false, false, true, true, false, false, false, true, true, false, false, false, true, true, true, false, false, false, true, true, false, false, false, false, false, false, false, false, false, false, false, false, false, false, false] rfl rfl (any_of HT_.out (by kernel_rfl)) (fun _ _ _ h => h) (Or.inl ⟨by rfl, ?_⟩) ?_ ?_
                            rotate_left
                            ·intro w'
                             go_simp
                             with_reducible rfl
                            rotate_left
                            ·simp only [Act.put, List.setIfInBounds_toArray, List.set_cons_zero, List.set_cons_succ, i64_w, i32_w]
                             rfl
                            refine pure_ (i := 33) (N := some 98) (v := ?_) (a' := ?_) #[true, true, true, true, true, false, false, false, true, true, false, false, true, true, false, false, false, true, true, false, false, false, true, true, true, false, false, false, true, true, false, false, false, true, false, false, false, false, false, false, false, false, false, false, false] rfl rfl (any_of HT_.out (by kernel_rfl)) (fun _ _ _ h => h) (Or.inl ⟨by rfl, ?_⟩) ?_ ?_
                            rotate_left
                            ·intro w'
                             go_simp
                             with_reducible rfl
                            rotate_left
                            ·simp only [Act.put, List.setIfInBounds_toArray, List.set_cons_zero, List.set_cons_succ, i64_w, i32_w]
                             rfl
                            refine pure_ (i := 35) (N := some 100) (v := ?_) (a' := ?_) #[true, true, true, true, true, false, false, false, true, true, false, false, true, true, false, false, false, true, true, false, false, false, true, true, true, false, false, false, true, true, false, false, false, true, false, true, false, false, false, false, false, false, false, false, false] rfl rfl (any_of HT_.out (by kernel_rfl)) (fun _ _ _ h => h) (Or.inl ⟨by rfl, ?_⟩) ?_ ?_
                            rotate_left
                            ·intro w'
                             go_simp
                             with_reducible rfl
                            rotate_left
                            ·simp only [Act.put, List.setIfInBounds_toArray, List.set_cons_zero, List.set_cons_succ, i64_w, i32_w]
                             rfl
                            refine pure_ (i := 36) (N := some 101) (v := ?_) (a' := ?_) #[true, true, true, true, true, false, false, false, true, true, false, false, true, true, false, false, false, true, true, false, false, false, true, true, true, false, false, false, true, true, false, false, false, true, false, true, true, false, false, false, false, false, false, false, false] rfl rfl (any_of HT_.out (by kernel_rfl)) (fun _ _ _ h => h) (Or.inl ⟨by rfl, ?_⟩) ?_ ?_
                            rotate_left
                            ·intro w'
                             go_simp
                             with_reducible rfl
                            rotate_left
                            ·simp only [Act.put, List.setIfInBounds_toArray, List.set_cons_zero, List.set_cons_succ, i64_w, i32_w]
                             rfl
                            refine pure_ (i := 39) (N := some 104) (v := ?_) (a' := ?_) #[true, true, true, true, true, false, false, false, true, true, false, false, true, true, false, false, false, true, true, false, false, false, true, true, true, false, false, false, true, true, false, false, false, true, false, true, true, false, false, true, false, false, false, false, false] rfl rfl (any_of HT_.out (by kernel_rfl)) (fun _ _ _ h => h) (Or.inl ⟨by rfl, ?_⟩) ?_ ?_
                            rotate_left
                            ·intro w'
                             go_simp
                             with_reducible rfl
                            rotate_left
                            ·simp only [Act.put, List.setIfInBounds_toArray, List.set_cons_zero, List.set_cons_succ, i64_w, i32_w]
                             rfl
                            refine pure_ (i := 40) (N := some 105) (v := ?_) (a' := ?_) #[true, true, true, true, true, false, false, false, true, true, false, false, true, true, false, false, false, true, true, false, false, false, true, true, true, false, false, false, true, true, false, false, false, true, false, true, true, false, false, true, true, false, false, false, false] rfl rfl (any_of HT_.out (by kernel_rfl)) (fun _ _ _ h => h) (Or.inl ⟨by rfl, ?_⟩) ?_ ?_
                            rotate_left
                            ·intro w'
                             go_simp
                             with_reducible rfl
                            rotate_left
                            ·simp only [Act.put, List.setIfInBounds_toArray, List.set_cons_zero, List.set_cons_succ, i64_w, i32_w]
                             rfl
                            refine take_ (i := 5) (N := some 70) (v := ?_) (a' := ?_) #[true, true, true, true, true, true, false, false, true, true, false, false, true, true, false, false, false, true, true, false, false, false, true, true, true, false, false, false, true, true, false, false, false, true, false, true, true, false, false, true, true, false, false, false, false] rfl rfl (take_ofW HT_.out HW_.out (by kernel_rfl)) (fun _ _ _ h => h) (Or.inl ⟨by rfl, ?_⟩) hHeld ?_ ?_
                            rotate_left
                            ·intro w' s0
                             go_simp
                             with_reducible rfl
                            rotate_left
                            ·simp only [Act.put, List.setIfInBounds_toArray, List.set_cons_zero, List.set_cons_succ, i64_w, i32_w]
                             rfl
                            refine pure_ (i := 6) (N := some 71) (v := ?_) (a' := ?_) #[true, true, true, true, true, true, true, false, true, true, false, false, true, true, false, false, false, true, true, false, false, false, true, true, true, false, false, false, true, true, false, false, false, true, false, true, true, false, false, true, true, false, false, false, false] rfl rfl (any_of HT_.out (by kernel_rfl)) (fun _ _ _ h => h) (Or.inl ⟨by rfl, ?_⟩) ?_ ?_
                            rotate_left
                            ·intro w'
                             go_simp
                             with_reducible rfl
                            rotate_left
                            ·simp only [Act.put, List.setIfInBounds_toArray, List.set_cons_zero, List.set_cons_succ, i64_w, i32_w]
                             rfl
                            refine pure_ (i := 7) (N := some 72) (v := ?_) (a' := ?_) #[true, true, true, true, true, true, true, true, true, true, false, false, true, true, false, false, false, true, true, false, false, false, true, true, true, false, false, false, true, true, false, false, false, true, false, true, true, false, false, true, true, false, false, false, false] rfl rfl (any_of HT_.out (by kernel_rfl)) (fun _ _ _ h => h) (Or.inl ⟨by rfl, ?_⟩) ?_ ?_
                            rotate_left
                            ·intro w'
                             go_simp
                             with_reducible rfl
                            rotate_left
                            ·simp only [Act.put, List.setIfInBounds_toArray, List.set_cons_zero, List.set_cons_succ, i64_w, i32_w]
                             rfl
                            refine one_ (i := 10) (N := some 75) #[true, true, true, true, true, true, true, true, true, true, true, false, true, true, false, false, false, true, true, false, false, false, true, true, true, false, false, false, true, true, false, false, false, true, false, true, true, false, false, true, true, false, false, false, false] rfl rfl (one_of HT_.out (by kernel_rfl)) (by decide) (fun K hK => ?_)
                            refine goes_ Tryd.func40 (by kernel_rfl) rfl #[.int .i64 (wrap64 (Int.tdiv t230 100))] (by rfl) rfl rfl qa_ ?_
                            with_reducible refine (date_two.calls (wrap64 (Int.tdiv t230 100)) t236 _ A33.out).mono ?_
                            rintro e w54 ⟨rfl, hb⟩
                            refine ⟨_, rfl, ?_⟩
                            have n0_ := Aside0.mk (blk_below (g := gb228) (o := .cells #[.int .i64 a0_0, .int .i64 a0_1] 24 (0, 0)) (qk_ BK228.out) hb)
                            have n1_ := Aside0.mk (below_step (qb_ HB.out) hb)
                            clear BK228
                            clear HB
                            have BK228 := n0_
                            have HB := n1_
                            clear n0_ n1_
                            (try clear hb)
                            (try clear hb2)
                            (try clear hk)
                            (try clear hi)
                            refine hK.out _ _ ((mo_at hL0 (qb_ HB.out) (j := t231) (qd_) (qd_))) (fun hHeld => ?_)
                            clear hK K
                            refine norm_ (a' := ?_) ?_ ?_
                            rotate_left
                            ·show Act.put _ (some 75) _ = _
                             simp only [Act.put, List.setIfInBounds_toArray, List.set_cons_zero, List.set_cons_succ, i64_w, i32_w]
                             rfl
                            refine pure_ (i := 11) (N := some 76) (v := ?_) (a' := ?_) #[true, true, true, true, true, true, true, true, true, true, true, true, true, true, false, false, false, true, true, false, false, false, true, true, true, false, false, false, true, true, false, false, false, true, false, true, true, false, false, true, true, false, false, false, false] rfl rfl (any_of HT_.out (by kernel_rfl)) (fun _ _ _ h => h) (Or.inl ⟨by rfl, ?_⟩) ?_ ?_
                            rotate_left
                            ·intro w'
                             go_simp
                             with_reducible rfl
                            rotate_left
                            ·simp only [Act.put, List.setIfInBounds_toArray, List.set_cons_zero, List.set_cons_succ, i64_w, i32_w]
                             rfl
                            refine one_ (i := 14) (N := some 79) #[true, true, true, true, true, true, true, true, true, true, true, true, true, true, true, false, false, true, true, false, false, false, true, true, true, false, false, false, true, true, false, false, false, true, false, true, true, false, false, true, true, false, false, false, false] rfl rfl (one_of HT_.out (by kernel_rfl)) (by decide) (fun K hK => ?_)
                            refine goes_ Tryd.func40 (by kernel_rfl) rfl #[.int .i64 (Int.tmod t230 100)] (by rfl) rfl rfl qa_ ?_
                            with_reducible refine (date_two.calls (Int.tmod t230 100) t237 _ A35.out).mono ?_
                            rintro e w55 ⟨rfl, hb⟩
                            refine ⟨_, rfl, ?_⟩
                            have n0_ := Aside0.mk (blk_below (g := gb228) (o := .cells #[.int .i64 a0_0, .int .i64 a0_1] 24 (0, 0)) (qk_ BK228.out) hb)
                            have n1_ := Aside0.mk (below_step (qb_ HB.out) hb)
                            clear BK228
                            clear HB
                            have BK228 := n0_
                            have HB := n1_
                            clear n0_ n1_
                            (try clear hb)
                            (try clear hb2)
                            (try clear hk)
                            (try clear hi)
                            refine hK.out _ _ ((mo_at hL0 (qb_ HB.out) (j := t231) (qd_) (qd_))) (fun hHeld => ?_)
                            clear hK K
                            refine norm_ (a' := ?_) ?_ ?_
                            rotate_left
                            ·show Act.put _ (some 79) _ = _
                             simp only [Act.put, List.setIfInBounds_toArray, List.set_cons_zero, List.set_cons_succ, i64_w, i32_w]
                             rfl
                            refine pure_ (i := 15) (N := some 80) (v := ?_) (a' := ?_) #[true, true, true, true, true, true, true, true, true, true, true, true, true, true, true, true, false, true, true, false, false, false, true, true, true, false, false, false, true, true, false, false, false, true, false, true, true, false, false, true, true, false, false, false, false] rfl rfl (any_of HT_.out (by kernel_rfl)) (fun _ _ _ h => h) (Or.inl ⟨by rfl, ?_⟩) ?_ ?_
                            rotate_left
                            ·intro w'
                             go_simp
                             with_reducible rfl
                            rotate_left
                            ·simp only [Act.put, List.setIfInBounds_toArray, List.set_cons_zero, List.set_cons_succ, i64_w, i32_w]
                             rfl
                            refine pure_ (i := 16) (N := some 81) (v := ?_) (a' := ?_) #[true, true, true, true, true, true, true, true, true, true, true, true, true, true, true, true, true, true, true, false, false, false, true, true, true, false, false, false, true, true, false, false, false, true, false, true, true, false, false, true, true, false, false, false, false] rfl rfl (any_of HT_.out (by kernel_rfl)) (fun _ _ _ h => h) (Or.inl ⟨by rfl, ?_⟩) ?_ ?_
                            rotate_left
                            ·intro w'
                             go_simp
                             with_reducible rfl
                            rotate_left
                            ·simp only [Act.put, List.setIfInBounds_toArray, List.set_cons_zero, List.set_cons_succ, i64_w, i32_w]
                             rfl
                            refine one_ (i := 19) (N := some 84) #[true, true, true, true, true, true, true, true, true, true, true, true, true, true, true, true, true, true, true, true, false, false, true, true, true, false, false, false, true, true, false, false, false, true, false, true, true, false, false, true, true, false, false, false, false] rfl rfl (one_of HT_.out (by kernel_rfl)) (by decide) (fun K hK => ?_)
                            refine goes_ Tryd.func40 (by kernel_rfl) rfl #[.int .i64 (wrap64 (Int.tdiv (wrap64 ((wrap64 (a0_0 + (wrap64 (a0_1 * 60)))) - (wrap64 (t229 * 86400)))) 3600))] (by rfl) rfl rfl qa_ ?_
                            with_reducible refine (date_two.calls (wrap64 (Int.tdiv (wrap64 ((wrap64 (a0_0 + (wrap64 (a0_1 * 60)))) - (wrap64 (t229 * 86400)))) 3600)) t238 _ A38.out).mono ?_
                            rintro e w56 ⟨rfl, hb⟩
                            refine ⟨_, rfl, ?_⟩
                            have n0_ := Aside0.mk (blk_below (g := gb228) (o := .cells #[.int .i64 a0_0, .int .i64 a0_1] 24 (0, 0)) (qk_ BK228.out) hb)
                            have n1_ := Aside0.mk (below_step (qb_ HB.out) hb)
                            clear BK228
                            clear HB
                            have BK228 := n0_
                            have HB := n1_
                            clear n0_ n1_
                            (try clear hb)
                            (try clear hb2)
                            (try clear hk)
                            (try clear hi)
                            refine hK.out _ _ ((mo_at hL0 (qb_ HB.out) (j := t231) (qd_) (qd_))) (fun hHeld => ?_)
                            clear hK K
                            refine norm_ (a' := ?_) ?_ ?_
                            rotate_left
                            ·show Act.put _ (some 84) _ = _
                             simp only [Act.put, List.setIfInBounds_toArray, List.set_cons_zero, List.set_cons_succ, i64_w, i32_w]
                             rfl
                            refine pure_ (i := 20) (N := some 85) (v := ?_) (a' := ?_) #[true, true, true, true, true, true, true, true, true, true, true, true, true, true, true, true, true, true, true, true, true, false, true, true, true, false, false, false, true, true, false, false, false, true, false, true, true, false, false, true, true, false, false, false, false] rfl rfl (any_of HT_.out (by kernel_rfl)) (fun _ _ _ h => h) (Or.inl ⟨by rfl, ?_⟩) ?_ ?_
                            rotate_left
                            ·intro w'
                             go_simp
                             with_reducible rfl
                            rotate_left
                            ·simp only [Act.put, List.setIfInBounds_toArray, List.set_cons_zero, List.set_cons_succ, i64_w, i32_w]
                             rfl
                            refine pure_ (i := 21) (N := some 86) (v := ?_) (a' := ?_) #[true, true, true, true, true, true, true, true, true, true, true, true, true, true, true, true, true, true, true, true, true, true, true, true, true, false, false, false, true, true, false, false, false, true, false, true, true, false, false, true, true, false, false, false, false] rfl rfl (any_of HT_.out (by kernel_rfl)) (fun _ _ _ h => h) (Or.inl ⟨by rfl, ?_⟩) ?_ ?_
                            rotate_left
                            ·intro w'
                             go_simp
                             with_reducible rfl
                            rotate_left
                            ·simp only [Act.put, List.setIfInBounds_toArray, List.set_cons_zero, List.set_cons_succ, i64_w, i32_w]
                             rfl
                            refine one_ (i := 25) (N := some 90) #[true, true, true, true, true, true, true, true, true, true, true, true, true, true, true, true, true, true, true, true, true, true, true, true, true, true, false, false, true, true, false, false, false, true, false, true, true, false, false, true, true, false, false, false, false] rfl rfl (one_of HT_.out (by kernel_rfl)) (by decide) (fun K hK => ?_)
                            refine goes_ Tryd.func40 (by kernel_rfl) rfl #[.int .i64 (Int.tmod (wrap64 (Int.tdiv (wrap64 ((wrap64 (a0_0 + (wrap64 (a0_1 * 60)))) - (wrap64 (t229 * 86400)))) 60)) 60)] (by rfl) rfl rfl qa_ ?_
                            with_reducible refine (date_two.calls (Int.tmod (wrap64 (Int.tdiv (wrap64 ((wrap64 (a0_0 + (wrap64 (a0_1 * 60)))) - (wrap64 (t229 * 86400)))) 60)) 60) t239 _ A41.out).mono ?_
                            rintro e w57 ⟨rfl, hb⟩
                            refine ⟨_, rfl, ?_⟩
                            have n0_ := Aside0.mk (blk_below (g := gb228) (o := .cells #[.int .i64 a0_0, .int .i64 a0_1] 24 (0, 0)) (qk_ BK228.out) hb)
                            have n1_ := Aside0.mk (below_step (qb_ HB.out) hb)
                            clear BK228
                            clear HB
                            have BK228 := n0_
                            have HB := n1_
                            clear n0_ n1_
                            (try clear hb)
                            (try clear hb2)
                            (try clear hk)
                            (try clear hi)
                            refine hK.out _ _ ((mo_at hL0 (qb_ HB.out) (j := t231) (qd_) (qd_))) (fun hHeld => ?_)
                            clear hK K
                            refine norm_ (a' := ?_) ?_ ?_
                            rotate_left
                            ·show Act.put _ (some 90) _ = _
                             simp only [Act.put, List.setIfInBounds_toArray, List.set_cons_zero, List.set_cons_succ, i64_w, i32_w]
                             rfl
                            refine pure_ (i := 26) (N := some 91) (v := ?_) (a' := ?_) #[true, true, true, true, true, true, true, true, true, true, true, true, true, true, true, true, true, true, true, true, true, true, true, true, true, true, true, false, true, true, false, false, false, true, false, true, true, false, false, true, true, false, false, false, false] rfl rfl (any_of HT_.out (by kernel_rfl)) (fun _ _ _ h => h) (Or.inl ⟨by rfl, ?_⟩) ?_ ?_
                            rotate_left
                            ·intro w'
                             go_simp
                             with_reducible rfl
                            rotate_left
                            ·simp only [Act.put, List.setIfInBounds_toArray, List.set_cons_zero, List.set_cons_succ, i64_w, i32_w]
                             rfl
                            refine pure_ (i := 27) (N := some 92) (v := ?_) (a' := ?_) #[true, true, true, true, true, true, true, true, true, true, true, true, true, true, true, true, true, true, true, true, true, true, true, true, true, true, true, true, true, true, false, false, false, true, false, true, true, false, false, true, true, false, false, false, false] rfl rfl (any_of HT_.out (by kernel_rfl)) (fun _ _ _ h => h) (Or.inl ⟨by rfl, ?_⟩) ?_ ?_
                            rotate_left
                            ·intro w'
                             go_simp
                             with_reducible rfl
                            rotate_left
                            ·simp only [Act.put, List.setIfInBounds_toArray, List.set_cons_zero, List.set_cons_succ, i64_w, i32_w]
                             rfl
                            refine one_ (i := 30) (N := some 95) #[true, true, true, true, true, true, true, true, true, true, true, true, true, true, true, true, true, true, true, true, true, true, true, true, true, true, true, true, true, true, true, false, false, true, false, true, true, false, false, true, true, false, false, false, false] rfl rfl (one_of HT_.out (by kernel_rfl)) (by decide) (fun K hK => ?_)
                            refine goes_ Tryd.func40 (by kernel_rfl) rfl #[.int .i64 (Int.tmod (wrap64 ((wrap64 (a0_0 + (wrap64 (a0_1 * 60)))) - (wrap64 (t229 * 86400)))) 60)] (by rfl) rfl rfl qa_ ?_
                            with_reducible refine (date_two.calls (Int.tmod (wrap64 ((wrap64 (a0_0 + (wrap64 (a0_1 * 60)))) - (wrap64 (t229 * 86400)))) 60) t240 _ A44.out).mono ?_
                            rintro e w58 ⟨rfl, hb⟩
                            refine ⟨_, rfl, ?_⟩
                            have n0_ := Aside0.mk (blk_below (g := gb228) (o := .cells #[.int .i64 a0_0, .int .i64 a0_1] 24 (0, 0)) (qk_ BK228.out) hb)
                            have n1_ := Aside0.mk (below_step (qb_ HB.out) hb)
                            clear BK228
                            clear HB
                            have BK228 := n0_
                            have HB := n1_
                            clear n0_ n1_
                            (try clear hb)
                            (try clear hb2)
                            (try clear hk)
                            (try clear hi)
                            refine hK.out _ _ ((mo_at hL0 (qb_ HB.out) (j := t231) (qd_) (qd_))) (fun hHeld => ?_)
                            clear hK K
                            refine norm_ (a' := ?_) ?_ ?_
                            rotate_left
                            ·show Act.put _ (some 95) _ = _
                             simp only [Act.put, List.setIfInBounds_toArray, List.set_cons_zero, List.set_cons_succ, i64_w, i32_w]
                             rfl
                            refine pure_ (i := 31) (N := some 96) (v := ?_) (a' := ?_) #[true, true, true, true, true, true, true, true, true, true, true, true, true, true, true, true, true, true, true, true, true, true, true, true, true, true, true, true, true, true, true, true, false, true, false, true, true, false, false, true, true, false, false, false, false] rfl rfl (any_of HT_.out (by kernel_rfl)) (fun _ _ _ h => h) (Or.inl ⟨by rfl, ?_⟩) ?_ ?_
                            rotate_left
                            ·intro w'
                             go_simp
                             with_reducible rfl
                            rotate_left
                            ·simp only [Act.put, List.setIfInBounds_toArray, List.set_cons_zero, List.set_cons_succ, i64_w, i32_w]
                             rfl
                            refine pure_ (i := 32) (N := some 97) (v := ?_) (a' := ?_) #[true, true, true, true, true, true, true, true, true, true, true, true, true, true, true, true, true, true, true, true, true, true, true, true, true, true, true, true, true, true, true, true, true, true, false, true, true, false, false, true, true, false, false, false, false] rfl rfl (any_of HT_.out (by kernel_rfl)) (fun _ _ _ h => h) (Or.inl ⟨by rfl, ?_⟩) ?_ ?_
                            rotate_left
                            ·intro w'
                             go_simp
                             with_reducible rfl
                            rotate_left
                            ·simp only [Act.put, List.setIfInBounds_toArray, List.set_cons_zero, List.set_cons_succ, i64_w, i32_w]
                             rfl
                            refine pure_ (i := 34) (N := some 99) (v := ?_) (a' := ?_) #[true, true, true, true, true, true, true, true, true, true, true, true, true, true, true, true, true, true, true, true, true, true, true, true, true, true, true, true, true, true, true, true, true, true, true, true, true, false, false, true, true, false, false, false, false] rfl rfl (any_of HT_.out (by kernel_rfl)) (fun _ _ _ h => h) (Or.inl ⟨by rfl, ?_⟩) ?_ ?_
                            rotate_left
                            ·intro w'
                             go_simp
                             with_reducible rfl
                            rotate_left
                            ·simp only [Act.put, List.setIfInBounds_toArray, List.set_cons_zero, List.set_cons_succ, i64_w, i32_w]
                             rfl
                            refine one_ (i := 37) (N := some 102) #[true, true, true, true, true, true, true, true, true, true, true, true, true, true, true, true, true, true, true, true, true, true, true, true, true, true, true, true, true, true, true, true, true, true, true, true, true, true, false, true, true, false, false, false, false] rfl rfl (one_of HT_.out (by kernel_rfl)) (by decide) (fun K hK => ?_)
                            refine goes_ Tryd.func40 (by kernel_rfl) rfl #[.int .i64 (wrap64 (Int.tdiv x11_14 60))] (by rfl) rfl rfl qa_ ?_
                            with_reducible refine (date_two.calls (wrap64 (Int.tdiv x11_14 60)) t241 _ A48.out).mono ?_
                            rintro e w59 ⟨rfl, hb⟩
                            refine ⟨_, rfl, ?_⟩
                            have n0_ := Aside0.mk (blk_below (g := gb228) (o := .cells #[.int .i64 a0_0, .int .i64 a0_1] 24 (0, 0)) (qk_ BK228.out) hb)
                            have n1_ := Aside0.mk (below_step (qb_ HB.out) hb)
                            clear BK228
                            clear HB
                            have BK228 := n0_
                            have HB := n1_
                            clear n0_ n1_
                            (try clear hb)
                            (try clear hb2)
                            (try clear hk)
                            (try clear hi)
                            refine hK.out _ _ ((mo_at hL0 (qb_ HB.out) (j := t231) (qd_) (qd_))) (fun hHeld => ?_)
                            clear hK K
                            refine norm_ (a' := ?_) ?_ ?_
                            rotate_left
                            ·show Act.put _ (some 102) _ = _
                             simp only [Act.put, List.setIfInBounds_toArray, List.set_cons_zero, List.set_cons_succ, i64_w, i32_w]
                             rfl
                            refine pure_ (i := 38) (N := some 103) (v := ?_) (a' := ?_) #[true, true, true, true, true, true, true, true, true, true, true, true, true, true, true, true, true, true, true, true, true, true, true, true, true, true, true, true, true, true, true, true, true, true, true, true, true, true, true, true, true, false, false, false, false] rfl rfl (any_of HT_.out (by kernel_rfl)) (fun _ _ _ h => h) (Or.inl ⟨by rfl, ?_⟩) ?_ ?_
                            rotate_left
                            ·intro w'
                             go_simp
                             with_reducible rfl
                            rotate_left
                            ·simp only [Act.put, List.setIfInBounds_toArray, List.set_cons_zero, List.set_cons_succ, i64_w, i32_w]
                             rfl
                            refine one_ (i := 41) (N := some 106) #[true, true, true, true, true, true, true, true, true, true, true, true, true, true, true, true, true, true, true, true, true, true, true, true, true, true, true, true, true, true, true, true, true, true, true, true, true, true, true, true, true, true, false, false, false] rfl rfl (one_of HT_.out (by kernel_rfl)) (by decide) (fun K hK => ?_)
                            refine goes_ Tryd.func40 (by kernel_rfl) rfl #[.int .i64 (Int.tmod x11_14 60)] (by rfl) rfl rfl qa_ ?_
                            with_reducible refine (date_two.calls (Int.tmod x11_14 60) t242 _ A50.out).mono ?_
                            rintro e w60 ⟨rfl, hb⟩
                            refine ⟨_, rfl, ?_⟩
                            have n0_ := Aside0.mk (blk_below (g := gb228) (o := .cells #[.int .i64 a0_0, .int .i64 a0_1] 24 (0, 0)) (qk_ BK228.out) hb)
                            have n1_ := Aside0.mk (below_step (qb_ HB.out) hb)
                            clear BK228
                            clear HB
                            have BK228 := n0_
                            have HB := n1_
                            clear n0_ n1_
                            (try clear hb)
                            (try clear hb2)
                            (try clear hk)
                            (try clear hi)
                            refine hK.out _ _ ((mo_at hL0 (qb_ HB.out) (j := t231) (qd_) (qd_))) (fun hHeld => ?_)
                            clear hK K
                            refine norm_ (a' := ?_) ?_ ?_
                            rotate_left
                            ·show Act.put _ (some 106) _ = _
                             simp only [Act.put, List.setIfInBounds_toArray, List.set_cons_zero, List.set_cons_succ, i64_w, i32_w]
                             rfl
                            refine pure_ (i := 42) (N := some 107) (v := ?_) (a' := ?_) #[true, true, true, true, true, true, true, true, true, true, true, true, true, true, true, true, true, true, true, true, true, true, true, true, true, true, true, true, true, true, true, true, true, true, true, true, true, true, true, true, true, true, true, false, false] rfl rfl (any_of HT_.out (by kernel_rfl)) (fun _ _ _ h => h) (Or.inl ⟨by rfl, ?_⟩) ?_ ?_
                            rotate_left
                            ·intro w'
                             go_simp
                             with_reducible rfl
                            rotate_left
                            ·simp only [Act.put, List.setIfInBounds_toArray, List.set_cons_zero, List.set_cons_succ, i64_w, i32_w]
                             rfl
                            refine pure_ (i := 43) (N := some 108) (v := ?_) (a' := ?_) #[true, true, true, true, true, true, true, true, true, true, true, true, true, true, true, true, true, true, true, true, true, true, true, true, true, true, true, true, true, true, true, true, true, true, true, true, true, true, true, true, true, true, true, true, false] rfl rfl (any_of HT_.out (by kernel_rfl)) (fun _ _ _ h => h) (Or.inl ⟨by rfl, ?_⟩) ?_ ?_
                            rotate_left
                            ·intro w'
                             go_simp
                             with_reducible rfl
                            rotate_left
                            ·simp only [Act.put, List.setIfInBounds_toArray, List.set_cons_zero, List.set_cons_succ, i64_w, i32_w]
                             rfl
                            refine pure_ (i := 44) (N := some 2) (v := ?_) (a' := ?_) #[true, true, true, true, true, true, true, true, true, true, true, true, true, true, true, true, true, true, true, true, true, true, true, true, true, true, true, true, true, true, true, true, true, true, true, true, true, true, true, true, true, true, true, true, true] rfl rfl (any_of HT_.out (by kernel_rfl)) (fun _ _ _ h => h) (Or.inl ⟨by rfl, ?_⟩) ?_ ?_
                            rotate_left
                            ·intro w'
                             go_simp
                             with_reducible rfl
                            rotate_left
                            ·simp only [Act.put, List.setIfInBounds_toArray, List.set_cons_zero, List.set_cons_succ, i64_w, i32_w]
                             rfl
                            refine done_ (done_of HT_.out (by kernel_rfl)) ?_
                            try go_wp2
                            go_ret
                            exact ⟨qw_, qb_ HB.out⟩
                           ·rw [if_neg c52] at H
                            exact absurd H (by simp)
                          ·rw [if_neg c51] at H
                           exact absurd H (by simp)
                         ·rw [if_neg c49] at H
                          exact absurd H (by simp)
                        ·rw [if_neg c47] at H
                         exact absurd H (by simp)
                       ·rw [if_neg c46] at H
                        exact absurd H (by simp)
                      ·rw [if_neg c45] at H
                       exact absurd H (by simp)
                     ·rw [if_neg c43] at H
                      exact absurd H (by simp)
                    ·rw [if_neg c42] at H
                     exact absurd H (by simp)
                   ·rw [if_neg c40] at H
                    exact absurd H (by simp)
                  ·rw [if_neg c39] at H
                   exact absurd H (by simp)
                 ·rw [if_neg c37] at H
                  exact absurd H (by simp)
                ·rw [if_neg c36] at H
                 exact absurd H (by simp)
               ·rw [if_neg c34] at H
                exact absurd H (by simp)
              ·rw [if_neg c32] at H
               exact absurd H (by simp)
             ·rw [if_neg c31] at H
              exact absurd H (by simp)
            ·rw [if_neg c29] at H
             exact absurd H (by simp)
           ·rw [if_neg c28] at H
            exact absurd H (by simp)
          ·rw [if_neg c27] at H
           exact absurd H (by simp)
         ·rw [if_neg c26] at H
          exact absurd H (by simp)
    ·replace c14 := Bool.eq_false_iff.mpr c14
     subst c14
     have H1 : (some (⟨#[]⟩ : ByteArray)) = some r := by rw [if_neg (show ¬ (false = true) by decide)] at H; exact H
     clear H
     have H := H1
     clear H1
     obtain rfl := Option.some.inj H
     obtain ⟨hcz61_0, hcz61_1, hfz61_0, hfz61_1⟩ := cz2_ BK228.out
     go_wp2_with (first | ((with_reducible refine gate_callee (f := 38) rfl ?_); refine goesL_ (some 38) rfl rfl Tryd.func38 (by kernel_rfl) rfl #[.int .i64 (wrap64 (a0_0 + (wrap64 (a0_1 * 60)))), .int .i64 86400] rfl qa_ ?_; (with_reducible refine (date_floor.calls (wrap64 (a0_0 + (wrap64 (a0_1 * 60)))) 86400 t229 _ A12.out).mono ?_); rintro e w' ⟨rfl, ⟨nd, rfl⟩⟩; refine ⟨_, rfl, ?_⟩) | ((with_reducible refine gate_callee (f := 39) rfl ?_); refine goesL_ (some 41) rfl rfl Tryd.func39 (by kernel_rfl) rfl #[.int .i64 t229] rfl qa_ ?_; (with_reducible refine (date_civil.calls kj1 t229 t230 t231 t232 false _ A13.out).mono ?_); rintro e w' ⟨rfl, ⟨nd, rfl⟩⟩; refine ⟨_, rfl, ?_⟩))
     go_ret
     exact ⟨qw_, qb_ HB.out⟩

end Go.Proofs.YtmbiggcapakjjaaDoor.P
