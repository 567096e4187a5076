-- Written by a program of this session (wip/tools/mk.sh) for this claim: it runs the kit's print with contracts of our own. Lean checks it.
import Derived.Test.YtmbiggcapakjjaaDoorPx0
import Derived.Test.YtmbiggcapakjjaaDoorWRepsOne
import Derived.Test.YtmbiggcapakjjaaDoorWGuard
import Derived.Test.YtmbiggcapakjjaaDoorWTab
import Derived.Test.YtmbiggcapakjjaaDoorZSplit
import Derived.Test.YtmbiggcapakjjaaDoorPx1
import Derived.Test.YtmbiggcapakjjaaDoorPx2
import Derived.Test.YtmbiggcapakjjaaDoorPx3
import Derived.Test.YtmbiggcapakjjaaDoorPx4
namespace Go.Proofs.YtmbiggcapakjjaaDoor.P
open Go.RowKit Go.Proofs.YtmbiggcapakjjaaDoorW.PrintWords Go.Proofs.YtmbiggcapakjjaaDoorW.PrintLast Go.Proofs.YtmbiggcapakjjaaDoorW.PrintMore
attribute [-simp] Int.tmod_tmod_of_dvd
attribute [local go_sem] max2_int min2_int max_two min_two max_three min_three max_four min_four   -- for this text's walks alone
set_option linter.unusedVariables false
set_option linter.unusedSimpArgs false

/-! ### date_Parse: function 8 -/
mutual
def date_Parse.j0 : Nat → List ByteArray → Bool → Option (Int × Int × Bool)
 | 0, _, _ => none
 | k + 1, x4, x30 => if x30 = true then (if 1 ≤ (x4.length : Int) then (date_Parse.j1 k (x4.drop (1 : Int).toNat)) else (none)) else (date_Parse.j1 k x4)
def date_Parse.j1 : Nat → List ByteArray → Option (Int × Int × Bool)
 | 0, _ => none
 | k + 1, x4 => if (x4.length : Int) < 4 then (date_Parse.j2 k x4 true) else (date_Parse.j2 k x4 (decide ((x4.length : Int) > 5)))
def date_Parse.j2 : Nat → List ByteArray → Bool → Option (Int × Int × Bool)
 | 0, _, _ => none
 | k + 1, x4, x40 => if x40 = true then (some (0, 0, false)) else (if 1 < (x4.length : Int) then ((date_month.f (rdOf ByteArray.empty x4 1)).bind fun t158 => (if (x4.length : Int) = 5 then (if 4 < (x4.length : Int) then ((date_zone.f k (rdOf ByteArray.empty x4 4)).bind fun bt160 => (date_Parse.j3 k x4 t158 bt160.1 bt160.2)) else (none)) else (date_Parse.j3 k x4 t158 0 true))) else (none))
def date_Parse.j3 : Nat → List ByteArray → Int → Int → Bool → Option (Int × Int × Bool)
 | 0, _, _, _, _ => none
 | k + 1, x4, x5, x6, x7 => if 3 < (x4.length : Int) then ((date_clock.f k (rdOf ByteArray.empty x4 3) 60 (([2, 3] : List Int))).bind fun t166 => (if x5 < 0 then (date_Parse.j4 k x4 x5 x6 t166 true) else (if x7 = true then (date_Parse.j4 k x4 x5 x6 t166 (decide (t166 < 0))) else (date_Parse.j4 k x4 x5 x6 t166 true)))) else (none)
def date_Parse.j4 : Nat → List ByteArray → Int → Int → Int → Bool → Option (Int × Int × Bool)
 | 0, _, _, _, _, _ => none
 | k + 1, x4, x5, x6, x8, x70 => if x70 = true then (some (0, 0, false)) else (if 2 < (x4.length : Int) then ((date_year.f k (rdOf ByteArray.empty x4 2)).bind fun t168 => (if 0 < (x4.length : Int) then ((date_digits.f k (rdOf ByteArray.empty x4 0) (([1, 2] : List Int))).bind fun t173 => ((date_number.f k t168 x5 t173).bind fun bt174 => (if bt174.2 = true then ((date_moment.f bt174.1 x8 x6).bind fun bt176 => (some (bt176.1, bt176.2, true))) else (some (0, 0, false))))) else (none))) else (none))
end
def date_Parse.f (k : Nat) (a0 : ByteArray) : Option (Int × Int × Bool) := (date_bare.f k a0).bind fun t148 => ((date_parts.f k t148).bind fun t149 => (if (t149.length : Int) > 0 then (if 0 < (t149.length : Int) then (if ((rdOf ByteArray.empty t149 0).size : Int) = 4 then (if 3 < ((rdOf ByteArray.empty t149 0).size : Int) then (date_Parse.j0 k t149 ((bt (rdOf ByteArray.empty t149 0) 3) == 44)) else (none)) else (date_Parse.j0 k t149 false)) else (none)) else (date_Parse.j0 k t149 false)))
theorem date_Parse.mono_l : ∀ k, (∀ y0 y1, LeO (date_Parse.j0 k y0 y1) (date_Parse.j0 (k + 1) y0 y1)) ∧ (∀ y0, LeO (date_Parse.j1 k y0) (date_Parse.j1 (k + 1) y0)) ∧ (∀ y0 y1, LeO (date_Parse.j2 k y0 y1) (date_Parse.j2 (k + 1) y0 y1)) ∧ (∀ y0 y1 y2 y3, LeO (date_Parse.j3 k y0 y1 y2 y3) (date_Parse.j3 (k + 1) y0 y1 y2 y3)) ∧ (∀ y0 y1 y2 y3 y4, LeO (date_Parse.j4 k y0 y1 y2 y3 y4) (date_Parse.j4 (k + 1) y0 y1 y2 y3 y4))
 | 0 => ⟨fun _ _ r h => by simp [date_Parse.j0] at h, fun _ r h => by simp [date_Parse.j1] at h, fun _ _ r h => by simp [date_Parse.j2] at h, fun _ _ _ _ r h => by simp [date_Parse.j3] at h, fun _ _ _ _ _ r h => by simp [date_Parse.j4] at h⟩
 | k + 1 => by
  obtain ⟨ih0, ih1, ih2, ih3, ih4⟩ := date_Parse.mono_l k
  refine ⟨?_, ?_, ?_, ?_, ?_⟩
  ·intro y0 y1
   unfold date_Parse.j0
   repeat' first
   | (with_reducible exact ih0 _ _)
   | (with_reducible exact ih1 _)
   | (with_reducible exact ih2 _ _)
   | (with_reducible exact ih3 _ _ _ _)
   | (with_reducible exact ih4 _ _ _ _ _)
   | (with_reducible exact date_bare.mono _ _)
   | (with_reducible exact date_clock.mono _ _ _ _)
   | (with_reducible exact date_digits.mono _ _ _)
   | (with_reducible exact date_number.mono _ _ _ _)
   | (with_reducible exact date_parts.mono _ _)
   | (with_reducible exact date_year.mono _ _)
   | (with_reducible exact date_zone.mono _ _)
   | (with_reducible exact LeO.refl _)
   | (with_reducible exact LeO.none _)
   | (with_reducible refine LeO.ite ?_ ?_)
   | (with_reducible refine LeO.bind ?_ (fun _ => ?_))
   | exact ih0 _ _
   | exact ih1 _
   | exact ih2 _ _
   | exact ih3 _ _ _ _
   | exact ih4 _ _ _ _ _
   | exact date_bare.mono _ _
   | exact date_clock.mono _ _ _ _
   | exact date_digits.mono _ _ _
   | exact date_number.mono _ _ _ _
   | exact date_parts.mono _ _
   | exact date_year.mono _ _
   | exact date_zone.mono _ _
   | exact LeO.none _
   | refine LeO.ite ?_ ?_
   | refine LeO.bind ?_ (fun _ => ?_)
  ·intro y0
   unfold date_Parse.j1
   repeat' first
   | (with_reducible exact ih0 _ _)
   | (with_reducible exact ih1 _)
   | (with_reducible exact ih2 _ _)
   | (with_reducible exact ih3 _ _ _ _)
   | (with_reducible exact ih4 _ _ _ _ _)
   | (with_reducible exact date_bare.mono _ _)
   | (with_reducible exact date_clock.mono _ _ _ _)
   | (with_reducible exact date_digits.mono _ _ _)
   | (with_reducible exact date_number.mono _ _ _ _)
   | (with_reducible exact date_parts.mono _ _)
   | (with_reducible exact date_year.mono _ _)
   | (with_reducible exact date_zone.mono _ _)
   | (with_reducible exact LeO.refl _)
   | (with_reducible exact LeO.none _)
   | (with_reducible refine LeO.ite ?_ ?_)
   | (with_reducible refine LeO.bind ?_ (fun _ => ?_))
   | exact ih0 _ _
   | exact ih1 _
   | exact ih2 _ _
   | exact ih3 _ _ _ _
   | exact ih4 _ _ _ _ _
   | exact date_bare.mono _ _
   | exact date_clock.mono _ _ _ _
   | exact date_digits.mono _ _ _
   | exact date_number.mono _ _ _ _
   | exact date_parts.mono _ _
   | exact date_year.mono _ _
   | exact date_zone.mono _ _
   | exact LeO.none _
   | refine LeO.ite ?_ ?_
   | refine LeO.bind ?_ (fun _ => ?_)
  ·intro y0 y1
   unfold date_Parse.j2
   repeat' first
   | (with_reducible exact ih0 _ _)
   | (with_reducible exact ih1 _)
   | (with_reducible exact ih2 _ _)
   | (with_reducible exact ih3 _ _ _ _)
   | (with_reducible exact ih4 _ _ _ _ _)
   | (with_reducible exact date_bare.mono _ _)
   | (with_reducible exact date_clock.mono _ _ _ _)
   | (with_reducible exact date_digits.mono _ _ _)
   | (with_reducible exact date_number.mono _ _ _ _)
   | (with_reducible exact date_parts.mono _ _)
   | (with_reducible exact date_year.mono _ _)
   | (with_reducible exact date_zone.mono _ _)
   | (with_reducible exact LeO.refl _)
   | (with_reducible exact LeO.none _)
   | (with_reducible refine LeO.ite ?_ ?_)
   | (with_reducible refine LeO.bind ?_ (fun _ => ?_))
   | exact ih0 _ _
   | exact ih1 _
   | exact ih2 _ _
   | exact ih3 _ _ _ _
   | exact ih4 _ _ _ _ _
   | exact date_bare.mono _ _
   | exact date_clock.mono _ _ _ _
   | exact date_digits.mono _ _ _
   | exact date_number.mono _ _ _ _
   | exact date_parts.mono _ _
   | exact date_year.mono _ _
   | exact date_zone.mono _ _
   | exact LeO.none _
   | refine LeO.ite ?_ ?_
   | refine LeO.bind ?_ (fun _ => ?_)
  ·intro y0 y1 y2 y3
   unfold date_Parse.j3
   repeat' first
   | (with_reducible exact ih0 _ _)
   | (with_reducible exact ih1 _)
   | (with_reducible exact ih2 _ _)
   | (with_reducible exact ih3 _ _ _ _)
   | (with_reducible exact ih4 _ _ _ _ _)
   | (with_reducible exact date_bare.mono _ _)
   | (with_reducible exact date_clock.mono _ _ _ _)
   | (with_reducible exact date_digits.mono _ _ _)
   | (with_reducible exact date_number.mono _ _ _ _)
   | (with_reducible exact date_parts.mono _ _)
   | (with_reducible exact date_year.mono _ _)
   | (with_reducible exact date_zone.mono _ _)
   | (with_reducible exact LeO.refl _)
   | (with_reducible exact LeO.none _)
   | (with_reducible refine LeO.ite ?_ ?_)
   | (with_reducible refine LeO.bind ?_ (fun _ => ?_))
   | exact ih0 _ _
   | exact ih1 _
   | exact ih2 _ _
   | exact ih3 _ _ _ _
   | exact ih4 _ _ _ _ _
   | exact date_bare.mono _ _
   | exact date_clock.mono _ _ _ _
   | exact date_digits.mono _ _ _
   | exact date_number.mono _ _ _ _
   | exact date_parts.mono _ _
   | exact date_year.mono _ _
   | exact date_zone.mono _ _
   | exact LeO.none _
   | refine LeO.ite ?_ ?_
   | refine LeO.bind ?_ (fun _ => ?_)
  ·intro y0 y1 y2 y3 y4
   unfold date_Parse.j4
   repeat' first
   | (with_reducible exact ih0 _ _)
   | (with_reducible exact ih1 _)
   | (with_reducible exact ih2 _ _)
   | (with_reducible exact ih3 _ _ _ _)
   | (with_reducible exact ih4 _ _ _ _ _)
   | (with_reducible exact date_bare.mono _ _)
   | (with_reducible exact date_clock.mono _ _ _ _)
   | (with_reducible exact date_digits.mono _ _ _)
   | (with_reducible exact date_number.mono _ _ _ _)
   | (with_reducible exact date_parts.mono _ _)
   | (with_reducible exact date_year.mono _ _)
   | (with_reducible exact date_zone.mono _ _)
   | (with_reducible exact LeO.refl _)
   | (with_reducible exact LeO.none _)
   | (with_reducible refine LeO.ite ?_ ?_)
   | (with_reducible refine LeO.bind ?_ (fun _ => ?_))
   | exact ih0 _ _
   | exact ih1 _
   | exact ih2 _ _
   | exact ih3 _ _ _ _
   | exact ih4 _ _ _ _ _
   | exact date_bare.mono _ _
   | exact date_clock.mono _ _ _ _
   | exact date_digits.mono _ _ _
   | exact date_number.mono _ _ _ _
   | exact date_parts.mono _ _
   | exact date_year.mono _ _
   | exact date_zone.mono _ _
   | exact LeO.none _
   | refine LeO.ite ?_ ?_
   | refine LeO.bind ?_ (fun _ => ?_)
theorem date_Parse.mono : ∀ a0 k, LeO (date_Parse.f k a0) (date_Parse.f (k + 1) a0) := by
 intro a0 k
 obtain ⟨ih0, ih1, ih2, ih3, ih4⟩ := date_Parse.mono_l k
 unfold date_Parse.f
 repeat' first
   | (with_reducible exact ih0 _ _)
   | (with_reducible exact ih1 _)
   | (with_reducible exact ih2 _ _)
   | (with_reducible exact ih3 _ _ _ _)
   | (with_reducible exact ih4 _ _ _ _ _)
   | (with_reducible exact date_bare.mono _ _)
   | (with_reducible exact date_clock.mono _ _ _ _)
   | (with_reducible exact date_digits.mono _ _ _)
   | (with_reducible exact date_number.mono _ _ _ _)
   | (with_reducible exact date_parts.mono _ _)
   | (with_reducible exact date_year.mono _ _)
   | (with_reducible exact date_zone.mono _ _)
   | (with_reducible exact LeO.refl _)
   | (with_reducible exact LeO.none _)
   | (with_reducible refine LeO.ite ?_ ?_)
   | (with_reducible refine LeO.bind ?_ (fun _ => ?_))
   | exact ih0 _ _
   | exact ih1 _
   | exact ih2 _ _
   | exact ih3 _ _ _ _
   | exact ih4 _ _ _ _ _
   | exact date_bare.mono _ _
   | exact date_clock.mono _ _ _ _
   | exact date_digits.mono _ _ _
   | exact date_number.mono _ _ _ _
   | exact date_parts.mono _ _
   | exact date_year.mono _ _
   | exact date_zone.mono _ _
   | exact LeO.none _
   | refine LeO.ite ?_ ?_
   | refine LeO.bind ?_ (fun _ => ?_)
def date_Parse.T12 : Bool × List (List Nat × List Nat) := (true, [([], []), ([0], [0]), ([1], [1]), ([2], [2]), ([], []), ([], []), ([5], [5]), ([6], [6]), ([], []), ([7, 8, 3], [7, 8]), ([3, 4, 9, 9], [3, 4, 9]), ([10], [10]), ([11], [11]), ([11], [11]), ([12, 10, 0, 1, 2, 3, 4, 5, 6, 7, 8, 9, 10, 11, 12], [12]), ([13, 14, 0, 1, 2, 3, 4, 5, 6, 7, 8, 9, 10, 11, 12, 13, 14], [13])])
def date_Parse.B12 : List Nat := [0, 1, 3, 7, 0, 0, 32, 96, 0, 495, 1023, 2047, 4095, 4095, 8191, 32767]
theorem date_Parse.tab12 : rtab .any (opsOf Tryd.f8 12) = date_Parse.T12 := by kernel_rfl
theorem date_Parse.bits12 : waitsOk date_Parse.T12.2 date_Parse.B12 = true := by kernel_rfl
set_option maxHeartbeats 8000000 in
set_option maxRecDepth 100000 in
theorem date_Parse.calls (k : Nat) (a0 : ByteArray) (r1 : Int) (r2 : Int) (r3 : Bool) (w : World) (h : date_Parse.f k a0 = some (r1, r2, r3)) (hL0 : mo_Words w := by first | exact hL0 | exact mo_Words.below hL0 (by repeat (first | (with_reducible first | exact HB.out | apply below_alloc | apply pw_below_drewN | apply below_drew1 | refine below_set ?_ (Aside0.out (by assumption))) | exact HB.out))) :
  Calls Tryd.prog 8 #[.string a0] w fun e w' => e = .returned (.tuple #[.agg #[.int .i64 r1, .int .i64 r2], .bool r3]) ∧ Below w.heap.size w w' := by
 have hu24 := Tryd.underlying24
 have hw8_ : ∀ x_ : Int, IntKind.u8.wrap x_ = x_ % 256 := IntKind.wrap_u8
 have HB := Aside0.mk (Below.refl w.heap.size w)
 have H : ((date_bare.f k a0).bind fun t148 => ((date_parts.f k t148).bind fun t149 => (if (t149.length : Int) > 0 then (if 0 < (t149.length : Int) then (if ((rdOf ByteArray.empty t149 0).size : Int) = 4 then (if 3 < ((rdOf ByteArray.empty t149 0).size : Int) then (date_Parse.j0 k t149 ((bt (rdOf ByteArray.empty t149 0) 3) == 44)) else (none)) else (date_Parse.j0 k t149 false)) else (none)) else (date_Parse.j0 k t149 false)))) = some (r1, r2, r3) := h
 clear h
 replace H := Option.bind_eq_some_iff.mp H
 obtain ⟨t148, A20, H⟩ := H
 replace H : ((date_parts.f k t148).bind fun t149 => (if (t149.length : Int) > 0 then (if 0 < (t149.length : Int) then (if ((rdOf ByteArray.empty t149 0).size : Int) = 4 then (if 3 < ((rdOf ByteArray.empty t149 0).size : Int) then (date_Parse.j0 k t149 ((bt (rdOf ByteArray.empty t149 0) 3) == 44)) else (none)) else (date_Parse.j0 k t149 false)) else (none)) else (date_Parse.j0 k t149 false))) = some (r1, r2, r3) := H
 have A2 := Aside0.mk A20
 clear A20
 replace H := Option.bind_eq_some_iff.mp H
 obtain ⟨t149, A30, H⟩ := H
 replace H : (if (t149.length : Int) > 0 then (if 0 < (t149.length : Int) then (if ((rdOf ByteArray.empty t149 0).size : Int) = 4 then (if 3 < ((rdOf ByteArray.empty t149 0).size : Int) then (date_Parse.j0 k t149 ((bt (rdOf ByteArray.empty t149 0) 3) == 44)) else (none)) else (date_Parse.j0 k t149 false)) else (none)) else (date_Parse.j0 k t149 false)) = some (r1, r2, r3) := H
 have A3 := Aside0.mk A30
 clear A30
 have HC4 := Aside0.mk H
 clear H
 go_enter Tryd.func8, Tryd.ntmps8
 go_upto_region 2 with (first | ((with_reducible refine gate_dst (N := 2) rfl ?_); (try (refine gate_guard (by rfl) ?_; dsimp only)); refine box_event ?hg (N := 2) ?hd (cs := #[.int .i64 0, .int .i64 0]) (t := 24) ?hr ?_; (case hd => rfl); (case hg => rfl); (case hr => first | (go_simp; done) | (go_simp; rfl)); intro gb147 hg w5 hbox hb; have n0_ := Aside0.mk (below_step (qb_ HB.out) hb); have n1_ := Aside0.mk (hbox); have n2_ := Aside0.mk ((by rw [hg]; exact (below_size (qb_ HB.out)) : w.heap.size ≤ gb147)); have n3_ := Aside0.mk ((by rw [hg]; exact (below_size (qb_ HB.out)) : w.heap.size ≤ gb147)); clear HB; have HB := n0_; have BK147 := n1_; have GW147 := n2_; have GE147 := n3_; clear n0_ n1_ n2_ n3_; clear hb hbox hg) | ((with_reducible refine gate_callee (f := 19) rfl ?_); refine goesL_ (some 12) rfl rfl Tryd.func19 (by kernel_rfl) rfl #[.string a0] rfl qa_ ?_; (with_reducible refine (date_bare.calls k a0 t148 _ A2.out).mono ?_); rintro e w6 ⟨rfl, hb⟩; refine ⟨_, rfl, ?_⟩; have n0_ := Aside0.mk (blk_below (g := gb147) (o := .cells #[.int .i64 0, .int .i64 0] 24 (0, 0)) (qk_ BK147.out) hb); have n1_ := Aside0.mk (below_step (qb_ HB.out) hb); clear BK147; clear HB; have BK147 := n0_; have HB := n1_; clear n0_ n1_; (try clear hb); (try clear hb2); (try clear hk); (try clear hi)) | ((with_reducible refine gate_callee (f := 18) rfl ?_); refine goesL_ (some 13) rfl rfl Tryd.func18 (by kernel_rfl) rfl #[.string t148] rfl qa_ ?_; (with_reducible refine (date_parts.calls k t148 t149 _ A3.out).mono ?_); rintro e w7 ⟨v150, rfl, ho0, hb⟩; refine ⟨_, rfl, ?_⟩; have n0_ := Aside0.mk (Kd.R_lower ho0 (below_size (qb_ HB.out))); have n1_ := Aside0.mk (blk_below (g := gb147) (o := .cells #[.int .i64 0, .int .i64 0] 24 (0, 0)) (qk_ BK147.out) hb); have n2_ := Aside0.mk (below_step (qb_ HB.out) hb); clear BK147; clear HB; have HO151 := n0_; have BK147 := n1_; have HB := n2_; clear n0_ n1_ n2_; (try clear hb); (try clear hb2); (try clear hk); (try clear hi); (try clear ho0)))
 (try simp only [Act.put, List.setIfInBounds_toArray, List.set_cons_zero, List.set_cons_succ])
 go_cut [30] (fun v30 wc => ∃ (kq : Nat) (x30_3 : Bool), v30 = .bool x30_3 ∧ Aside0 (date_Parse.j0 kq t149 x30_3 = some (r1, r2, r3)) ∧ Aside0 (kq ≤ k) ∧ Aside0 (Kd.Q Kd.string 9 wc w.heap.size (fun _ => True) v150 t149) ∧ Aside0 (wc.heap[gb147]? = some (.cells #[.int .i64 0, .int .i64 0] 24 (0, 0))) ∧ Aside0 (Below w.heap.size w wc))
 case first =>
  have H := HC4.out
  clear HC4
  by_cases c8 : (t149.length : Int) > 0
  ·rw [if_pos c8] at H
   have c8b0 : decide (0 < (t149.length : Int)) = true := decide_eq_true c8
   have c8b1 : decide (0 < t149.length) = true := decide_eq_true (by omega)
   clear c8
   (first | rw [c8b0] | (simp only [i64_w, i32_w]; rw [c8b0]) | skip)
   by_cases c9 : 0 < (t149.length : Int)
   ·rw [if_pos c9] at H
    have c9b0 : decide (0 < (t149.length : Int)) = true := decide_eq_true c9
    have c9b1 : decide (0 < t149.length) = true := decide_eq_true (by omega)
    clear c9
    by_cases c10 : ((rdOf ByteArray.empty t149 0).size : Int) = 4
    ·rw [if_pos c10] at H
     have c10b0 : (((rdOf ByteArray.empty t149 0).size : Int) == 4) = true := beq_iff_eq.mpr c10
     have c10b1 : (((rdOf ByteArray.empty t149 0).size : Int) != 4) = false := bne_eq_false_iff_eq.mpr c10
     clear c10
     by_cases c11 : 3 < ((rdOf ByteArray.empty t149 0).size : Int)
     ·rw [if_pos c11] at H
      have c11b0 : decide (3 < ((rdOf ByteArray.empty t149 0).size : Int)) = true := decide_eq_true c11
      have c11b1 : decide (3 < (rdOf ByteArray.empty t149 0).size) = true := decide_eq_true (by omega)
      clear c11
      have H' := Aside0.mk H
      clear H
      obtain ⟨Ao13, co13, eo13⟩ := Kd.R_slice HO151.out
      subst eo13
      have p152 : 0 ≤ (0 : Int) := (by omega)
      have q152 : 0 < (t149.length : Int) := qd_
      obtain ⟨ad152, e152, hx152_0⟩ := Kd.at_string (Kd.R_reads' HO151.out).2.2 0 p152 q152
      cases e152
      have qi152 : (0 < t149.length) = True := eq_true (by omega)
      (try rw [show ((0 : Int)).toNat = 0 from rfl] at hx152_0)
      (try rw [Addr.add_zero'] at hx152_0)
      replace p152 := eq_true p152
      replace q152 := eq_true q152
      have p153 : 0 ≤ (0 : Int) := (by omega)
      have q153 : 0 < (t149.length : Int) := qd_
      obtain ⟨ad153, e153, hx153_0⟩ := Kd.at_string (Kd.R_reads' HO151.out).2.2 0 p153 q153
      obtain rfl : ad152 = ad153 := (by injection e153)
      have qi153 : (0 < t149.length) = True := eq_true (by omega)
      (try rw [show ((0 : Int)).toNat = 0 from rfl] at hx153_0)
      (try rw [Addr.add_zero'] at hx153_0)
      replace p153 := eq_true p153
      replace q153 := eq_true q153
      have p12 : 0 ≤ (3 : Int) := (by omega)
      have q12 : 3 < (rdOf ByteArray.empty t149 0).size := (by have : (3 : Int) < ((rdOf ByteArray.empty t149 0).size : Int) := qd_; omega)
      have hx12 : ∀ h : 3 < (rdOf ByteArray.empty t149 0).size, (((rdOf ByteArray.empty t149 0)[3]'h).toNat : Int) = bt (rdOf ByteArray.empty t149 0) 3 := bt_at (rdOf ByteArray.empty t149 0) 3
      clear p12
      have qi12 : (3 < ((rdOf ByteArray.empty t149 0).size : Int)) = True := eq_true (qd_)
      replace q12 := eq_true q12
      go_wp2
      go_meet
      case rel => exact ⟨_, (((bt (rdOf ByteArray.empty t149 0) 3) == 44)), qr_, H', ⟨by first | omega | exact Nat.le_refl _⟩, ⟨Kd.Q_of_R (ql_ HO151.out)⟩, ⟨qk_ BK147.out⟩, ⟨qb_ HB.out⟩⟩
     ·rw [if_neg c11] at H
      exact absurd H (by simp)
    ·rw [if_neg c10] at H
     have c10b0 : (((rdOf ByteArray.empty t149 0).size : Int) == 4) = false := beq_eq_false_iff_ne.mpr c10
     have c10b1 : (((rdOf ByteArray.empty t149 0).size : Int) != 4) = true := bne_iff_ne.mpr c10
     have H' := Aside0.mk H
     clear H
     obtain ⟨Ao14, co14, eo14⟩ := Kd.R_slice HO151.out
     subst eo14
     have p152 : 0 ≤ (0 : Int) := (by omega)
     have q152 : 0 < (t149.length : Int) := qd_
     obtain ⟨ad152, e152, hx152_0⟩ := Kd.at_string (Kd.R_reads' HO151.out).2.2 0 p152 q152
     cases e152
     have qi152 : (0 < t149.length) = True := eq_true (by omega)
     (try rw [show ((0 : Int)).toNat = 0 from rfl] at hx152_0)
     (try rw [Addr.add_zero'] at hx152_0)
     replace p152 := eq_true p152
     replace q152 := eq_true q152
     go_wp2
     go_meet
     case rel => exact ⟨_, (false), qr_, H', ⟨by first | omega | exact Nat.le_refl _⟩, ⟨Kd.Q_of_R (ql_ HO151.out)⟩, ⟨qk_ BK147.out⟩, ⟨qb_ HB.out⟩⟩
   ·rw [if_neg c9] at H
    exact absurd H (by simp)
  ·rw [if_neg c8] at H
   have c8b0 : decide (0 < (t149.length : Int)) = false := decide_eq_false c8
   have c8b1 : decide (0 < t149.length) = false := decide_eq_false (by omega)
   clear c8
   (first | rw [c8b0] | (simp only [i64_w, i32_w]; rw [c8b0]) | skip)
   have H' := Aside0.mk H
   clear H
   obtain ⟨Ao15, co15, eo15⟩ := Kd.R_slice HO151.out
   subst eo15
   go_wp2
   go_meet
   case rel => exact ⟨_, (false), qr_, H', ⟨by first | omega | exact Nat.le_refl _⟩, ⟨Kd.Q_of_R (ql_ HO151.out)⟩, ⟨qk_ BK147.out⟩, ⟨qb_ HB.out⟩⟩
 case rest =>
  clear HC4
  obtain ⟨kq, x30_3, rfl, HA, HJ3, HO_4, BK147, HB⟩ := hcut
  cases kq with
  | zero => exact absurd HA.out (by simp [date_Parse.j0])
  | succ kj3 =>
   have H := HA.out
   clear HA
   simp only [date_Parse.j0] at H
   have HC16 := Aside0.mk H
   clear H
   go_upto_if 30 with (fail)
   go_cut [4] (fun v4 wc => ∃ (kq : Nat) (x4_15 : List ByteArray), Aside0 (date_Parse.j1 kq x4_15 = some (r1, r2, r3)) ∧ Aside0 (kq ≤ kj3) ∧ Aside0 (Kd.Q Kd.string 9 wc w.heap.size (fun _ => True) v4 x4_15) ∧ Aside0 (wc.heap[gb147]? = some (.cells #[.int .i64 0, .int .i64 0] 24 (0, 0))) ∧ Aside0 (Below w.heap.size w wc))
   case first =>
    have H := HC16.out
    clear HC16
    by_cases c17 : x30_3 = true
    ·subst c17
     have H1 : (if 1 ≤ (t149.length : Int) then (date_Parse.j1 kj3 (t149.drop (1 : Int).toNat)) else (none)) = some (r1, r2, r3) := by rw [if_pos rfl] at H; exact H
     clear H
     have H := H1
     clear H1
     by_cases c18 : 1 ≤ (t149.length : Int)
     ·rw [if_pos c18] at H
      have c18b0 := eq_true c18
      have c18b1 : decide (1 ≤ (t149.length : Int)) = true := decide_eq_true c18
      clear c18
      obtain ⟨y154, hy154⟩ : ∃ y_ : List ByteArray, y_ = (t149.drop (1 : Int).toNat) := ⟨_, rfl⟩
      replace H : (date_Parse.j1 kj3 y154) = some (r1, r2, r3) := by first | (rw [hy154]; with_reducible exact H) | (have H2_ := (Option.bind_some _ _).symm.trans H; rw [hy154]; with_reducible exact H2_) | (have H2_ := (Option.bind_some _ _).symm.trans H; with_reducible exact H2_) | with_reducible exact H | (rw [hy154]; exact H) | exact H
      have Ny154 := Aside0.mk hy154
      clear hy154
      have H' := Aside0.mk H
      clear H
      obtain ⟨Ao19, co19, eo19, _⟩ := Kd.Q_slice HO_4.out
      subst eo19
      have q20 : (1 : Int) ≤ ((t149.length : Int) : Int) := qd_
      obtain ⟨i020, hi020, _, hsz20, _⟩ := info_parts info9
      have hcut20 := cut_from (P := Tryd.prog) 43 9 .i64 Tryd.underlying43 hi020 1 hsz20 Ao19 t149.length co19 1 (by omega) q20
      have hr20 := Kd.Q_drop (k := (1 : Int).toNat) HO_4.out (by omega)
      obtain ⟨A20, hA20⟩ : ∃ A1, A1 = (if co19 = (1 : Int).toNat then Ao19 else (Ao19 : Option Addr).map (·.add ((1 : Int).toNat * 1))) := ⟨_, rfl⟩
      obtain ⟨c20, hc20⟩ : ∃ c1, c1 = co19 - (1 : Int).toNat := ⟨_, rfl⟩
      have hy20 : y154.length = t149.length - (1 : Int).toNat := (by rw [Ny154.out, List.length_drop])
      rw [← Ny154.out] at hr20
      rw [← hy20, ← hA20, ← hc20] at hcut20
      replace hr20 : Kd.Q Kd.string 9 wc w.heap.size (fun _ => True) (.slice A20 y154.length c20) y154 := (by rw [hA20, hc20, hy20]; exact hr20)
      have HE20 : Aside0 ((Value.slice A20 y154.length c20).ownBlock = (.slice Ao19 t149.length co19 : Value).ownBlock) := ⟨by rw [hA20]; split <;> (cases (Ao19 : Option Addr) <;> rfl)⟩
      clear hy20 hi020 hsz20 HO_4 hA20 hc20
      have HO156 := Aside0.mk hr20
      clear hr20
      replace q20 := eq_true q20
      go_wp2
      go_meet
      case rel => exact ⟨_, (y154), H', ⟨by have := HJ3.out; first | omega | exact Nat.le_refl _⟩, ⟨by (with_reducible repeat (first | apply Kd.Q_alloc | apply Kd.Q_drewN | apply Kd.Q_drew)); exact HO156.out⟩, ⟨qk_ BK147.out⟩, ⟨qb_ HB.out⟩⟩
     ·rw [if_neg c18] at H
      exact absurd H (by simp)
    ·replace c17 := Bool.eq_false_iff.mpr c17
     subst c17
     have H1 : (date_Parse.j1 kj3 t149) = some (r1, r2, r3) := by rw [if_neg (show ¬ (false = true) by decide)] at H; exact H
     clear H
     have H := H1
     clear H1
     have H' := Aside0.mk H
     clear H
     go_wp2
     go_meet
     case rel => exact ⟨_, (t149), H', ⟨by have := HJ3.out; first | omega | exact Nat.le_refl _⟩, ⟨by (with_reducible repeat (first | apply Kd.Q_alloc | apply Kd.Q_drewN | apply Kd.Q_drew)); exact HO_4.out⟩, ⟨qk_ BK147.out⟩, ⟨qb_ HB.out⟩⟩
   case rest =>
    clear HC16
    obtain ⟨kq, x4_15, HA, HJ15, HO_4, BK147, HB⟩ := hcut
    cases kq with
    | zero => exact absurd HA.out (by simp [date_Parse.j1])
    | succ kj15 =>
     have H := HA.out
     clear HA
     simp only [date_Parse.j1] at H
     have HC21 := Aside0.mk H
     clear H
     go_upto_region 4 with (fail)
     go_cut [40] (fun v40 wc => ∃ (kq : Nat) (x40_20 : Bool), v40 = .bool x40_20 ∧ Aside0 (date_Parse.j2 kq x4_15 x40_20 = some (r1, r2, r3)) ∧ Aside0 (kq ≤ kj15) ∧ Aside0 (Kd.Q Kd.string 9 wc w.heap.size (fun _ => True) u4 x4_15) ∧ Aside0 (wc.heap[gb147]? = some (.cells #[.int .i64 0, .int .i64 0] 24 (0, 0))) ∧ Aside0 (Below w.heap.size w wc))
     case first =>
      have H := HC21.out
      clear HC21
      by_cases c22 : (x4_15.length : Int) < 4
      ·rw [if_pos c22] at H
       have c22b0 : decide ((x4_15.length : Int) < 4) = true := decide_eq_true c22
       have c22b1 : decide (x4_15.length < 4) = true := decide_eq_true (by omega)
       clear c22
       (first | rw [c22b0] | (simp only [i64_w, i32_w]; rw [c22b0]) | skip)
       have H' := Aside0.mk H
       clear H
       obtain ⟨Ao23, co23, eo23, _⟩ := Kd.Q_slice HO_4.out
       subst eo23
       go_wp2
       go_meet
       case rel => exact ⟨_, (true), qr_, H', ⟨by have := HJ3.out; have := HJ15.out; first | omega | exact Nat.le_refl _⟩, ⟨by (with_reducible repeat (first | apply Kd.Q_alloc | apply Kd.Q_drewN | apply Kd.Q_drew)); exact HO_4.out⟩, ⟨qk_ BK147.out⟩, ⟨qb_ HB.out⟩⟩
      ·rw [if_neg c22] at H
       have c22b0 : decide ((x4_15.length : Int) < 4) = false := decide_eq_false c22
       have c22b1 : decide (x4_15.length < 4) = false := decide_eq_false (by omega)
       clear c22
       (first | rw [c22b0] | (simp only [i64_w, i32_w]; rw [c22b0]) | skip)
       have H' := Aside0.mk H
       clear H
       obtain ⟨Ao24, co24, eo24, _⟩ := Kd.Q_slice HO_4.out
       subst eo24
       go_wp2
       go_meet
       case rel => exact ⟨_, (decide ((x4_15.length : Int) > 5)), qr_, H', ⟨by have := HJ3.out; have := HJ15.out; first | omega | exact Nat.le_refl _⟩, ⟨by (with_reducible repeat (first | apply Kd.Q_alloc | apply Kd.Q_drewN | apply Kd.Q_drew)); exact HO_4.out⟩, ⟨qk_ BK147.out⟩, ⟨qb_ HB.out⟩⟩
     case rest =>
      clear HC21
      obtain ⟨kq, x40_20, rfl, HA, HJ20, HO_4, BK147, HB⟩ := hcut
      cases kq with
      | zero => exact absurd HA.out (by simp [date_Parse.j2])
      | succ kj20 =>
       have H := HA.out
       clear HA
       simp only [date_Parse.j2] at H
       by_cases c25 : x40_20 = true
       ·subst c25
        have H1 : (some (0, 0, false)) = some (r1, r2, r3) := by rw [if_pos rfl] at H; exact H
        clear H
        have H := H1
        clear H1
        simp only [Option.some.injEq, Prod.mk.injEq] at H
        obtain ⟨rfl, rfl, rfl⟩ := H
        obtain ⟨hcz26_0, hcz26_1, hfz26_0, hfz26_1⟩ := cz2_ BK147.out
        go_wp2
        refine bodyPost_ret (results_ct rfl _ _ gb147 24 #[.int .i64 0, .int .i64 0] (0, 0) _ rfl (qs2_ (qk_ BK147.out)) Tryd.underlying24 rfl (by kernel_rfl)) rfl ?_
        exact ⟨qw_, qb_ HB.out⟩
       ·replace c25 := Bool.eq_false_iff.mpr c25
        subst c25
        have H1 : (if 1 < (x4_15.length : Int) then ((date_month.f (rdOf ByteArray.empty x4_15 1)).bind fun t158 => (if (x4_15.length : Int) = 5 then (if 4 < (x4_15.length : Int) then ((date_zone.f kj20 (rdOf ByteArray.empty x4_15 4)).bind fun bt160 => (date_Parse.j3 kj20 x4_15 t158 bt160.1 bt160.2)) else (none)) else (date_Parse.j3 kj20 x4_15 t158 0 true))) else (none)) = some (r1, r2, r3) := by rw [if_neg (show ¬ (false = true) by decide)] at H; exact H
        clear H
        have H := H1
        clear H1
        by_cases c27 : 1 < (x4_15.length : Int)
        ·rw [if_pos c27] at H
         have c27b0 : decide (1 < (x4_15.length : Int)) = true := decide_eq_true c27
         have c27b1 : decide (1 < x4_15.length) = true := decide_eq_true (by omega)
         clear c27
         replace H := Option.bind_eq_some_iff.mp H
         obtain ⟨t158, A280, H⟩ := H
         replace H : (if (x4_15.length : Int) = 5 then (if 4 < (x4_15.length : Int) then ((date_zone.f kj20 (rdOf ByteArray.empty x4_15 4)).bind fun bt160 => (date_Parse.j3 kj20 x4_15 t158 bt160.1 bt160.2)) else (none)) else (date_Parse.j3 kj20 x4_15 t158 0 true)) = some (r1, r2, r3) := H
         have A28 := Aside0.mk A280
         clear A280
         have HC29 := Aside0.mk H
         clear H
         obtain ⟨Ao30, co30, eo30, _⟩ := Kd.Q_slice HO_4.out
         subst eo30
         have p157 : 0 ≤ (1 : Int) := (by omega)
         have q157 : 1 < (x4_15.length : Int) := qd_
         obtain ⟨ad157, e157, hx157_0⟩ := Kd.at_string (Kd.Q_reads' HO_4.out).2.2 1 p157 q157
         cases e157
         (try simp only [show (1 : Int).toNat = 1 from rfl, Nat.reduceMul, Nat.reduceEqDiff, Go.Addr.add, ↓reduceIte] at hx157_0)
         have qi157 : (1 < x4_15.length) = True := eq_true (by omega)
         (try rw [show ((1 : Int)).toNat = 1 from rfl] at hx157_0)
         replace p157 := eq_true p157
         replace q157 := eq_true q157
         go_upto_if 48 with (first | ((with_reducible refine gate_callee (f := 20) rfl ?_); refine goesL_ (some 45) rfl rfl Tryd.func20 (by kernel_rfl) rfl #[.string (rdOf ByteArray.empty x4_15 1)] rfl qa_ ?_; (with_reducible refine (date_month.calls (rdOf ByteArray.empty x4_15 1) t158 _ A28.out).mono ?_); rintro e w31 ⟨rfl, hb⟩; refine ⟨_, rfl, ?_⟩; have n0_ := Aside0.mk (Kd.Q_below (by (with_reducible repeat (first | apply Kd.Q_alloc | apply Kd.Q_drewN | apply Kd.Q_drew)); exact HO_4.out) hb); have n1_ := Aside0.mk (blk_below (g := gb147) (o := .cells #[.int .i64 0, .int .i64 0] 24 (0, 0)) (qk_ BK147.out) hb); have n2_ := Aside0.mk (below_step (qb_ HB.out) hb); clear HO_4; clear BK147; clear HB; have HO_4 := n0_; have BK147 := n1_; have HB := n2_; clear n0_ n1_ n2_; (try clear hb); (try clear hb2); (try clear hk); (try clear hi)))
         (try simp only [Act.put, List.setIfInBounds_toArray, List.set_cons_zero, List.set_cons_succ])
         go_cut [6, 7] (fun v6 v7 wc => ∃ (kq : Nat) (x6_28 : Int) (x7_28 : Bool), v6 = .int .i64 x6_28 ∧ v7 = .bool x7_28 ∧ Aside0 (date_Parse.j3 kq x4_15 t158 x6_28 x7_28 = some (r1, r2, r3)) ∧ Aside0 (kq ≤ kj20) ∧ Aside0 (Kd.Q Kd.string 9 wc w.heap.size (fun _ => True) (.slice (some ad157) x4_15.length co30) x4_15) ∧ Aside0 (wc.heap[gb147]? = some (.cells #[.int .i64 0, .int .i64 0] 24 (0, 0))) ∧ Aside0 (Below w.heap.size w wc))
         case first =>
          have H := HC29.out
          clear HC29
          by_cases c32 : (x4_15.length : Int) = 5
          ·rw [if_pos c32] at H
           have c32b0 : ((x4_15.length : Int) == 5) = true := beq_iff_eq.mpr c32
           have c32b1 : ((x4_15.length : Int) != 5) = false := bne_eq_false_iff_eq.mpr c32
           clear c32
           (first | rw [c32b0] | (simp only [i64_w, i32_w]; rw [c32b0]) | skip)
           by_cases c33 : 4 < (x4_15.length : Int)
           ·rw [if_pos c33] at H
            have c33b0 : decide (4 < (x4_15.length : Int)) = true := decide_eq_true c33
            have c33b1 : decide (4 < x4_15.length) = true := decide_eq_true (by omega)
            clear c33
            replace H := Option.bind_eq_some_iff.mp H
            obtain ⟨⟨t160, t161⟩, A340, H⟩ := H
            replace H : (date_Parse.j3 kj20 x4_15 t158 t160 t161) = some (r1, r2, r3) := H
            have A34 := Aside0.mk A340
            clear A340
            have H' := Aside0.mk H
            clear H
            have p159 : 0 ≤ (4 : Int) := (by omega)
            have q159 : 4 < (x4_15.length : Int) := qd_
            obtain ⟨ad159, e159, hx159_0⟩ := Kd.at_string (Kd.Q_reads' HO_4.out).2.2 4 p159 q159
            obtain rfl : ad157 = ad159 := (by injection e159)
            (try simp only [show (4 : Int).toNat = 4 from rfl, Nat.reduceMul, Nat.reduceEqDiff, Go.Addr.add, ↓reduceIte] at hx159_0)
            have qi159 : (4 < x4_15.length) = True := eq_true (by omega)
            (try rw [show ((4 : Int)).toNat = 4 from rfl] at hx159_0)
            replace p159 := eq_true p159
            replace q159 := eq_true q159
            go_wp2_with (first | ((with_reducible refine gate_callee (f := 21) rfl ?_); refine goesL_ (some 53) rfl rfl Tryd.func21 (by kernel_rfl) rfl #[.string (rdOf ByteArray.empty x4_15 4)] rfl qa_ ?_; (with_reducible refine (date_zone.calls kj20 (rdOf ByteArray.empty x4_15 4) t160 t161 _ A34.out).mono ?_); rintro e w35 ⟨rfl, hb⟩; refine ⟨_, rfl, ?_⟩; have n0_ := Aside0.mk (Kd.Q_below (by (with_reducible repeat (first | apply Kd.Q_alloc | apply Kd.Q_drewN | apply Kd.Q_drew)); exact HO_4.out) hb); have n1_ := Aside0.mk (blk_below (g := gb147) (o := .cells #[.int .i64 0, .int .i64 0] 24 (0, 0)) (qk_ BK147.out) hb); have n2_ := Aside0.mk (below_step (qb_ HB.out) hb); clear HO_4; clear BK147; clear HB; have HO_4 := n0_; have BK147 := n1_; have HB := n2_; clear n0_ n1_ n2_; (try clear hb); (try clear hb2); (try clear hk); (try clear hi)))
            go_meet
            case rel => exact ⟨_, (t160), (t161), qr_, qr_, H', ⟨by have := HJ3.out; have := HJ15.out; have := HJ20.out; first | omega | exact Nat.le_refl _⟩, ⟨by (with_reducible repeat (first | apply Kd.Q_alloc | apply Kd.Q_drewN | apply Kd.Q_drew)); exact HO_4.out⟩, ⟨qk_ BK147.out⟩, ⟨qb_ HB.out⟩⟩
           ·rw [if_neg c33] at H
            exact absurd H (by simp)
          ·rw [if_neg c32] at H
           have c32b0 : ((x4_15.length : Int) == 5) = false := beq_eq_false_iff_ne.mpr c32
           have c32b1 : ((x4_15.length : Int) != 5) = true := bne_iff_ne.mpr c32
           (first | rw [c32b0] | (simp only [i64_w, i32_w]; rw [c32b0]) | skip)
           have H' := Aside0.mk H
           clear H
           go_wp2
           go_meet
           case rel => exact ⟨_, (0), (true), qr_, qr_, H', ⟨by have := HJ3.out; have := HJ15.out; have := HJ20.out; first | omega | exact Nat.le_refl _⟩, ⟨by (with_reducible repeat (first | apply Kd.Q_alloc | apply Kd.Q_drewN | apply Kd.Q_drew)); exact HO_4.out⟩, ⟨qk_ BK147.out⟩, ⟨qb_ HB.out⟩⟩
         case rest =>
          clear HC29
          (try clear c25)
          obtain ⟨kq, x6_28, x7_28, rfl, rfl, HA, HJ28, HO_4, BK147, HB⟩ := hcut
          cases kq with
          | zero => exact absurd HA.out (by simp [date_Parse.j3])
          | succ kj28 =>
           have H := HA.out
           clear HA
           simp only [date_Parse.j3] at H
           by_cases c36 : 3 < (x4_15.length : Int)
           ·rw [if_pos c36] at H
            have c36b0 : decide (3 < (x4_15.length : Int)) = true := decide_eq_true c36
            have c36b1 : decide (3 < x4_15.length) = true := decide_eq_true (by omega)
            clear c36
            obtain ⟨y163, hy163⟩ : ∃ y_ : List Int, y_ = (([2, 3] : List Int)) := ⟨_, rfl⟩
            replace H : ((date_clock.f kj28 (rdOf ByteArray.empty x4_15 3) 60 y163).bind fun t166 => (if t158 < 0 then (date_Parse.j4 kj28 x4_15 t158 x6_28 t166 true) else (if x7_28 = true then (date_Parse.j4 kj28 x4_15 t158 x6_28 t166 (decide (t166 < 0))) else (date_Parse.j4 kj28 x4_15 t158 x6_28 t166 true)))) = some (r1, r2, r3) := by first | (rw [hy163]; with_reducible exact H) | (have H2_ := (Option.bind_some _ _).symm.trans H; rw [hy163]; with_reducible exact H2_) | (have H2_ := (Option.bind_some _ _).symm.trans H; with_reducible exact H2_) | with_reducible exact H | (rw [hy163]; exact H) | exact H
            have Ny163 := Aside0.mk hy163
            clear hy163
            replace H := Option.bind_eq_some_iff.mp H
            obtain ⟨t166, A370, H⟩ := H
            replace H : (if t158 < 0 then (date_Parse.j4 kj28 x4_15 t158 x6_28 t166 true) else (if x7_28 = true then (date_Parse.j4 kj28 x4_15 t158 x6_28 t166 (decide (t166 < 0))) else (date_Parse.j4 kj28 x4_15 t158 x6_28 t166 true))) = some (r1, r2, r3) := H
            have A37 := Aside0.mk A370
            clear A370
            have HC38 := Aside0.mk H
            clear H
            have p162 : 0 ≤ (3 : Int) := (by omega)
            have q162 : 3 < (x4_15.length : Int) := qd_
            obtain ⟨ad162, e162, hx162_0⟩ := Kd.at_string (Kd.Q_reads' HO_4.out).2.2 3 p162 q162
            obtain rfl : ad157 = ad162 := (by injection e162)
            (try simp only [show (3 : Int).toNat = 3 from rfl, Nat.reduceMul, Nat.reduceEqDiff, Go.Addr.add, ↓reduceIte] at hx162_0)
            have qi162 : (3 < x4_15.length) = True := eq_true (by omega)
            (try rw [show ((3 : Int)).toNat = 3 from rfl] at hx162_0)
            replace p162 := eq_true p162
            replace q162 := eq_true q162
            go_upto_region 10 with (first | ((with_reducible refine gate_dst (N := 59) rfl ?_); (try (refine gate_guard (by rfl) ?_; dsimp only)); refine Kd.R_lit (Kd.int .i64) _ 3 ?hg (N := 59) ?hd (xs := ([2, 3] : List Int)) (inner := [.int .i64 2, .int .i64 3]) (ok := fun _ => True) (okp := fun _ => True) ?hr ?hp (fun _ hk => hk) trivial (Below.refl _ _) (Nat.le_refl _) (by simp) ?_; (case hd => rfl); (case hg => rfl); (case hr => first | (go_simp; done) | (go_simp; rfl)); (case hp => exact (Reps.one (show Kd.M (Kd.int .i64) _ _ _ 2 [.int .i64 2] from rfl) (Reps.one (show Kd.M (Kd.int .i64) _ _ _ 3 [.int .i64 3] from rfl) (Reps.none _ _)))); intro v164 w39 ho40 hb hg_ hnew_; clear hg_ hnew_; (first | rw [← Ny163.out] at ho40 | (simp only [Int.reduceToNat] at ho40; rw [← Ny163.out] at ho40)); have n0_ := Aside0.mk (Kd.Q_below (by (with_reducible repeat (first | apply Kd.Q_alloc | apply Kd.Q_drewN | apply Kd.Q_drew)); exact HO_4.out) hb); have n1_ := Aside0.mk (Kd.R_lower ho40 (below_size (qb_ HB.out))); have n2_ := Aside0.mk (blk_below (g := gb147) (o := .cells #[.int .i64 0, .int .i64 0] 24 (0, 0)) (qk_ BK147.out) hb); have n3_ := Aside0.mk (below_step (qb_ HB.out) hb); clear HO_4; clear BK147; clear HB; have HO_4 := n0_; have HO165 := n1_; have BK147 := n2_; have HB := n3_; clear n0_ n1_ n2_ n3_; clear hb ho40; obtain ⟨Ao41, co41, eo41⟩ := Kd.R_slice HO165.out; subst eo41) | ((with_reducible refine gate_callee (f := 22) rfl ?_); refine goesL_ (some 60) rfl rfl Tryd.func22 (by kernel_rfl) rfl #[.string (rdOf ByteArray.empty x4_15 3), .int .i64 60, .slice Ao41 y163.length co41] rfl qa_ ?_; (with_reducible refine (date_clock.calls kj28 (rdOf ByteArray.empty x4_15 3) 60 _ _ y163 t166 _ ?side1 ?side2 A37.out).mono ?_); (case side1 => repeat (first | exact (Kd.R_reads' HO165.out).2.2 | (with_reducible refine Kd.C_alloc ?_ _) | (with_reducible refine Kd.C_drewN ?_ _) | (with_reducible refine Kd.C_drew ?_))); (case side2 => exact (Kd.R_reads' HO165.out).2.1); rintro e w42 ⟨rfl, hb⟩; refine ⟨_, rfl, ?_⟩; have n0_ := Aside0.mk (Kd.Q_below (by (with_reducible repeat (first | apply Kd.Q_alloc | apply Kd.Q_drewN | apply Kd.Q_drew)); exact HO_4.out) hb); have n1_ := Aside0.mk (Kd.R_below (ql_ HO165.out) hb); have n2_ := Aside0.mk (blk_below (g := gb147) (o := .cells #[.int .i64 0, .int .i64 0] 24 (0, 0)) (qk_ BK147.out) hb); have n3_ := Aside0.mk (below_step (qb_ HB.out) hb); clear HO_4; clear HO165; clear BK147; clear HB; have HO_4 := n0_; have HO165 := n1_; have BK147 := n2_; have HB := n3_; clear n0_ n1_ n2_ n3_; (try clear hb); (try clear hb2); (try clear hk); (try clear hi)))
            (try simp only [Act.put, List.setIfInBounds_toArray, List.set_cons_zero, List.set_cons_succ])
            go_cut [70] (fun v70 wc => ∃ (kq : Nat) (x70_37 : Bool), v70 = .bool x70_37 ∧ Aside0 (date_Parse.j4 kq x4_15 t158 x6_28 t166 x70_37 = some (r1, r2, r3)) ∧ Aside0 (kq ≤ kj28) ∧ Aside0 (Kd.Q Kd.string 9 wc w.heap.size (fun _ => True) (.slice (some ad157) x4_15.length co30) x4_15) ∧ Aside0 (wc.heap[gb147]? = some (.cells #[.int .i64 0, .int .i64 0] 24 (0, 0))) ∧ Aside0 (Below w.heap.size w wc))
            case first =>
             have H := HC38.out
             clear HC38
             by_cases c43 : t158 < 0
             ·rw [if_pos c43] at H
              have c43b0 : decide (t158 < 0) = true := decide_eq_true c43
              clear c43
              (first | rw [c43b0] | (simp only [i64_w, i32_w]; rw [c43b0]) | skip)
              have H' := Aside0.mk H
              clear H
              go_wp2
              go_meet
              case rel => exact ⟨_, (true), qr_, H', ⟨by have := HJ3.out; have := HJ15.out; have := HJ20.out; have := HJ28.out; first | omega | exact Nat.le_refl _⟩, ⟨by (with_reducible repeat (first | apply Kd.Q_alloc | apply Kd.Q_drewN | apply Kd.Q_drew)); exact HO_4.out⟩, ⟨qk_ BK147.out⟩, ⟨qb_ HB.out⟩⟩
             ·rw [if_neg c43] at H
              have c43b0 : decide (t158 < 0) = false := decide_eq_false c43
              clear c43
              (first | rw [c43b0] | (simp only [i64_w, i32_w]; rw [c43b0]) | skip)
              by_cases c44 : x7_28 = true
              ·subst c44
               have H1 : (date_Parse.j4 kj28 x4_15 t158 x6_28 t166 (decide (t166 < 0))) = some (r1, r2, r3) := by rw [if_pos rfl] at H; exact H
               clear H
               have H := H1
               clear H1
               have H' := Aside0.mk H
               clear H
               go_wp2
               go_meet
               case rel => exact ⟨_, (decide (t166 < 0)), qr_, H', ⟨by have := HJ3.out; have := HJ15.out; have := HJ20.out; have := HJ28.out; first | omega | exact Nat.le_refl _⟩, ⟨by (with_reducible repeat (first | apply Kd.Q_alloc | apply Kd.Q_drewN | apply Kd.Q_drew)); exact HO_4.out⟩, ⟨qk_ BK147.out⟩, ⟨qb_ HB.out⟩⟩
              ·replace c44 := Bool.eq_false_iff.mpr c44
               subst c44
               have H1 : (date_Parse.j4 kj28 x4_15 t158 x6_28 t166 true) = some (r1, r2, r3) := by rw [if_neg (show ¬ (false = true) by decide)] at H; exact H
               clear H
               have H := H1
               clear H1
               have H' := Aside0.mk H
               clear H
               go_wp2
               go_meet
               case rel => exact ⟨_, (true), qr_, H', ⟨by have := HJ3.out; have := HJ15.out; have := HJ20.out; have := HJ28.out; first | omega | exact Nat.le_refl _⟩, ⟨by (with_reducible repeat (first | apply Kd.Q_alloc | apply Kd.Q_drewN | apply Kd.Q_drew)); exact HO_4.out⟩, ⟨qk_ BK147.out⟩, ⟨qb_ HB.out⟩⟩
            case rest =>
             clear HC38
             obtain ⟨kq, x70_37, rfl, HA, HJ37, HO_4, BK147, HB⟩ := hcut
             cases kq with
             | zero => exact absurd HA.out (by simp [date_Parse.j4])
             | succ kj37 =>
              have H := HA.out
              clear HA
              simp only [date_Parse.j4] at H
              by_cases c45 : x70_37 = true
              ·subst c45
               have H1 : (some (0, 0, false)) = some (r1, r2, r3) := by rw [if_pos rfl] at H; exact H
               clear H
               have H := H1
               clear H1
               simp only [Option.some.injEq, Prod.mk.injEq] at H
               obtain ⟨rfl, rfl, rfl⟩ := H
               obtain ⟨hcz46_0, hcz46_1, hfz46_0, hfz46_1⟩ := cz2_ BK147.out
               go_wp2
               refine bodyPost_ret (results_ct rfl _ _ gb147 24 #[.int .i64 0, .int .i64 0] (0, 0) _ rfl (qs2_ (qk_ BK147.out)) Tryd.underlying24 rfl (by kernel_rfl)) rfl ?_
               exact ⟨qw_, qb_ HB.out⟩
              ·replace c45 := Bool.eq_false_iff.mpr c45
               subst c45
               have H1 : (if 2 < (x4_15.length : Int) then ((date_year.f kj37 (rdOf ByteArray.empty x4_15 2)).bind fun t168 => (if 0 < (x4_15.length : Int) then ((date_digits.f kj37 (rdOf ByteArray.empty x4_15 0) (([1, 2] : List Int))).bind fun t173 => ((date_number.f kj37 t168 t158 t173).bind fun bt174 => (if bt174.2 = true then ((date_moment.f bt174.1 t166 x6_28).bind fun bt176 => (some (bt176.1, bt176.2, true))) else (some (0, 0, false))))) else (none))) else (none)) = some (r1, r2, r3) := by rw [if_neg (show ¬ (false = true) by decide)] at H; exact H
               clear H
               have H := H1
               clear H1
               by_cases c47 : 2 < (x4_15.length : Int)
               ·rw [if_pos c47] at H
                have c47b0 : decide (2 < (x4_15.length : Int)) = true := decide_eq_true c47
                have c47b1 : decide (2 < x4_15.length) = true := decide_eq_true (by omega)
                clear c47
                replace H := Option.bind_eq_some_iff.mp H
                obtain ⟨t168, A480, H⟩ := H
                replace H : (if 0 < (x4_15.length : Int) then ((date_digits.f kj37 (rdOf ByteArray.empty x4_15 0) (([1, 2] : List Int))).bind fun t173 => ((date_number.f kj37 t168 t158 t173).bind fun bt174 => (if bt174.2 = true then ((date_moment.f bt174.1 t166 x6_28).bind fun bt176 => (some (bt176.1, bt176.2, true))) else (some (0, 0, false))))) else (none)) = some (r1, r2, r3) := H
                have A48 := Aside0.mk A480
                clear A480
                by_cases c49 : 0 < (x4_15.length : Int)
                ·rw [if_pos c49] at H
                 have c49b0 : decide (0 < (x4_15.length : Int)) = true := decide_eq_true c49
                 have c49b1 : decide (0 < x4_15.length) = true := decide_eq_true (by omega)
                 clear c49
                 obtain ⟨y170, hy170⟩ : ∃ y_ : List Int, y_ = (([1, 2] : List Int)) := ⟨_, rfl⟩
                 replace H : ((date_digits.f kj37 (rdOf ByteArray.empty x4_15 0) y170).bind fun t173 => ((date_number.f kj37 t168 t158 t173).bind fun bt174 => (if bt174.2 = true then ((date_moment.f bt174.1 t166 x6_28).bind fun bt176 => (some (bt176.1, bt176.2, true))) else (some (0, 0, false))))) = some (r1, r2, r3) := by first | (rw [hy170]; with_reducible exact H) | (have H2_ := (Option.bind_some _ _).symm.trans H; rw [hy170]; with_reducible exact H2_) | (have H2_ := (Option.bind_some _ _).symm.trans H; with_reducible exact H2_) | with_reducible exact H | (rw [hy170]; exact H) | exact H
                 have Ny170 := Aside0.mk hy170
                 clear hy170
                 replace H := Option.bind_eq_some_iff.mp H
                 obtain ⟨t173, A500, H⟩ := H
                 replace H : ((date_number.f kj37 t168 t158 t173).bind fun bt174 => (if bt174.2 = true then ((date_moment.f bt174.1 t166 x6_28).bind fun bt176 => (some (bt176.1, bt176.2, true))) else (some (0, 0, false)))) = some (r1, r2, r3) := H
                 have A50 := Aside0.mk A500
                 clear A500
                 replace H := Option.bind_eq_some_iff.mp H
                 obtain ⟨⟨t174, t175⟩, A510, H⟩ := H
                 replace H : (if t175 = true then ((date_moment.f t174 t166 x6_28).bind fun bt176 => (some (bt176.1, bt176.2, true))) else (some (0, 0, false))) = some (r1, r2, r3) := H
                 have A51 := Aside0.mk A510
                 clear A510
                 by_cases c52 : t175 = true
                 ·subst c52
                  have H1 : ((date_moment.f t174 t166 x6_28).bind fun bt176 => (some (bt176.1, bt176.2, true))) = some (r1, r2, r3) := by rw [if_pos rfl] at H; exact H
                  clear H
                  have H := H1
                  clear H1
                  replace H := Option.bind_eq_some_iff.mp H
                  obtain ⟨⟨t176, t177⟩, A530, H⟩ := H
                  replace H : (some (t176, t177, true)) = some (r1, r2, r3) := H
                  have A53 := Aside0.mk A530
                  clear A530
                  simp only [Option.some.injEq, Prod.mk.injEq] at H
                  obtain ⟨rfl, rfl, rfl⟩ := H
                  try go_wp2
                  have n0_ := Aside0.mk (Kd.Q_drew HO_4.out)
                  have n1_ := Aside0.mk (blk_drew BK147.out)
                  have n2_ := Aside0.mk (below_drew1 HB.out)
                  clear HO_4
                  clear BK147
                  clear HB
                  have HO_4 := n0_
                  have BK147 := n1_
                  have HB := n2_
                  clear n0_ n1_ n2_
                  have p167 : 0 ≤ (2 : Int) := (by omega)
                  have q167 : 2 < (x4_15.length : Int) := qd_
                  obtain ⟨ad167, e167, hx167_0⟩ := Kd.at_string (Kd.Q_reads' HO_4.out).2.2 2 p167 q167
                  obtain rfl : ad157 = ad167 := (by injection e167)
                  (try simp only [show (2 : Int).toNat = 2 from rfl, Nat.reduceMul, Nat.reduceEqDiff, Go.Addr.add, ↓reduceIte] at hx167_0)
                  have qi167 : (2 < x4_15.length) = True := eq_true (by omega)
                  (try rw [show ((2 : Int)).toNat = 2 from rfl] at hx167_0)
                  replace p167 := eq_true p167
                  replace q167 := eq_true q167
                  have p169 : 0 ≤ (0 : Int) := (by omega)
                  have q169 : 0 < (x4_15.length : Int) := qd_
                  obtain ⟨ad169, e169, hx169_0⟩ := Kd.at_string (Kd.Q_reads' HO_4.out).2.2 0 p169 q169
                  obtain rfl : ad157 = ad169 := (by injection e169)
                  have qi169 : (0 < x4_15.length) = True := eq_true (by omega)
                  (try rw [show ((0 : Int)).toNat = 0 from rfl] at hx169_0)
                  (try rw [Addr.add_zero'] at hx169_0)
                  replace p169 := eq_true p169
                  replace q169 := eq_true q169
                  refine start_ (n := 16) (S := fun w' => w'.cell? ⟨ad157.block, ad157.off + 2, none⟩ = some (.string (rdOf ByteArray.empty x4_15 2)) ∧ w'.cell? ad157 = some (.string (rdOf ByteArray.empty x4_15 0))) (ds := []) #[false, false, false, false, false, false, false, false, false, false, false, false, false, false, false, false] (by kernel_rfl) rfl rfl ⟨hx167_0, hx169_0⟩ (fun hHeld => ?_); refine with_tabW date_Parse.tab12 date_Parse.bits12 (fun HT_ HW_ => ?_)
                  generalize wc.drew = w54 at HO_4 BK147 HB hx167_0 hx169_0 hHeld ⊢
                  refine pure_ (i := 0) (N := some 73) (v := ?_) (a' := ?_) #[true, false, false, false, false, false, false, false, false, false, false, false, false, false, false, false] rfl rfl (any_of HT_.out (by kernel_rfl)) (fun _ _ _ h => h) (Or.inl ⟨by rfl, ?_⟩) ?_ ?_
                  rotate_left
                  ·intro w'
                   go_simp
                   with_reducible rfl
                  rotate_left
                  ·simp only [Act.put, List.setIfInBounds_toArray, List.set_cons_zero, List.set_cons_succ, i64_w, i32_w]
                   rfl
                  refine pure_ (i := 1) (N := some 74) (v := ?_) (a' := ?_) #[true, true, false, false, false, false, false, false, false, false, false, false, false, false, false, false] rfl rfl (any_of HT_.out (by kernel_rfl)) (fun _ _ _ h => h) (Or.inl ⟨by rfl, ?_⟩) ?_ ?_
                  rotate_left
                  ·intro w'
                   go_simp
                   with_reducible rfl
                  rotate_left
                  ·simp only [Act.put, List.setIfInBounds_toArray, List.set_cons_zero, List.set_cons_succ, i64_w, i32_w]
                   rfl
                  refine pure_ (i := 4) (N := some 77) (v := ?_) (a' := ?_) #[true, true, false, false, true, false, false, false, false, false, false, false, false, false, false, false] rfl rfl (any_of HT_.out (by kernel_rfl)) (fun _ _ _ h => h) (Or.inl ⟨by rfl, ?_⟩) ?_ ?_
                  rotate_left
                  ·intro w'
                   go_simp
                   with_reducible rfl
                  rotate_left
                  ·simp only [Act.put, List.setIfInBounds_toArray, List.set_cons_zero, List.set_cons_succ, i64_w, i32_w]
                   rfl
                  refine pure_ (i := 5) (N := some 78) (v := ?_) (a' := ?_) #[true, true, false, false, true, true, false, false, false, false, false, false, false, false, false, false] rfl rfl (any_of HT_.out (by kernel_rfl)) (fun _ _ _ h => h) (Or.inl ⟨by rfl, ?_⟩) ?_ ?_
                  rotate_left
                  ·intro w'
                   go_simp
                   with_reducible rfl
                  rotate_left
                  ·simp only [Act.put, List.setIfInBounds_toArray, List.set_cons_zero, List.set_cons_succ, i64_w, i32_w]
                   rfl
                  refine pure_ (i := 6) (N := some 79) (v := ?_) (a' := ?_) #[true, true, false, false, true, true, true, false, false, false, false, false, false, false, false, false] rfl rfl (any_of HT_.out (by kernel_rfl)) (fun _ _ _ h => h) (Or.inl ⟨by rfl, ?_⟩) ?_ ?_
                  rotate_left
                  ·intro w'
                   go_simp
                   with_reducible rfl
                  rotate_left
                  ·simp only [Act.put, List.setIfInBounds_toArray, List.set_cons_zero, List.set_cons_succ, i64_w, i32_w]
                   rfl
                  refine take_ (i := 2) (N := some 75) (v := ?_) (a' := ?_) #[true, true, true, false, true, true, true, false, false, false, false, false, false, false, false, false] rfl rfl (take_ofW HT_.out HW_.out (by kernel_rfl)) (fun _ _ _ h => h) (Or.inl ⟨by rfl, ?_⟩) hHeld ?_ ?_
                  rotate_left
                  ·rintro w' ⟨s0, s1⟩
                   go_simp
                   with_reducible rfl
                  rotate_left
                  ·simp only [Act.put, List.setIfInBounds_toArray, List.set_cons_zero, List.set_cons_succ, i64_w, i32_w]
                   rfl
                  refine take_ (i := 7) (N := some 80) (v := ?_) (a' := ?_) #[true, true, true, false, true, true, true, true, false, false, false, false, false, false, false, false] rfl rfl (take_ofW HT_.out HW_.out (by kernel_rfl)) (fun _ _ _ h => h) (Or.inl ⟨by rfl, ?_⟩) hHeld ?_ ?_
                  rotate_left
                  ·rintro w' ⟨s0, s1⟩
                   go_simp
                   with_reducible rfl
                  rotate_left
                  ·simp only [Act.put, List.setIfInBounds_toArray, List.set_cons_zero, List.set_cons_succ, i64_w, i32_w]
                   rfl
                  refine join_ (σ := Value) 7 #[true, true, true, true, true, true, true, true, true, false, false, false, false, false, false, false] (fun s_ => [(76, .int .i64 t168), (81, s_)]) (fun s_ w' => (w'.cell? ⟨ad157.block, ad157.off + 2, none⟩ = some (.string (rdOf ByteArray.empty x4_15 2)) ∧ w'.cell? ad157 = some (.string (rdOf ByteArray.empty x4_15 0))) ∧ (Kd.R (Kd.int .i64) 3 w' w.heap.size (fun _ => True) s_ y170) ∧ (Kd.Q Kd.string 9 w' w.heap.size (fun _ => True) (.slice (some ad157) x4_15.length co30) x4_15) ∧ (w'.heap[gb147]? = some (.cells #[.int .i64 0, .int .i64 0] 24 (0, 0))) ∧ (Below w.heap.size w w')) ?_ ?_
                  rotate_left
                  ·intro hCont
                   refine two_ (i := 3) (j := 8) (Ni := some 76) (Nj := some 81) #[true, true, true, true, true, true, true, true, false, false, false, false, false, false, false, false] #[true, true, true, false, true, true, true, true, true, false, false, false, false, false, false, false] rfl rfl rfl rfl (two_of HT_.out (by kernel_rfl)) (by decide) (by decide) (fun K hK => ?_) (fun K hK => ?_)
                   ·skip
                    refine goes_ Tryd.func24 (by kernel_rfl) rfl #[.string (rdOf ByteArray.empty x4_15 2)] (by rfl) rfl rfl qa_ ?_
                    with_reducible refine (date_year.calls kj37 (rdOf ByteArray.empty x4_15 2) t168 _ A48.out).mono ?_
                    rintro e w55 ⟨rfl, hb⟩
                    have HS0_ := (hb.cell (World.block_lt_of_cell? _ _ (hHeld.1))).trans (hHeld.1)
                    have HS1_ := (hb.cell (World.block_lt_of_cell? _ _ (hHeld.2))).trans (hHeld.2)
                    refine ⟨_, rfl, ?_⟩
                    have n0_ := Aside0.mk (Kd.Q_below (by (with_reducible repeat (first | apply Kd.Q_alloc | apply Kd.Q_drewN | apply Kd.Q_drew)); exact HO_4.out) hb)
                    have n1_ := Aside0.mk (blk_below (g := gb147) (o := .cells #[.int .i64 0, .int .i64 0] 24 (0, 0)) (qk_ BK147.out) hb)
                    have n2_ := Aside0.mk (below_step (qb_ HB.out) hb)
                    clear HO_4
                    clear BK147
                    clear HB
                    have HO_4 := n0_
                    have BK147 := n1_
                    have HB := n2_
                    clear n0_ n1_ n2_
                    (try clear hb)
                    (try clear hb2)
                    (try clear hk)
                    (try clear hi)
                    refine hK.out _ _ ⟨HS0_, HS1_⟩ (fun hHeld => ?_)
                    clear hK K
                    refine norm_ (a' := ?_) ?_ ?_
                    rotate_left
                    ·show Act.put _ (some 76) _ = _
                     simp only [Act.put, List.setIfInBounds_toArray, List.set_cons_zero, List.set_cons_succ, i64_w, i32_w]
                     rfl
                    refine one_ (i := 8) (N := some 81) #[true, true, true, true, true, true, true, true, true, false, false, false, false, false, false, false] rfl rfl (one_of HT_.out (by kernel_rfl)) (by decide) (fun K hK => ?_)
                    refine Kd.R_lit_step (Kd.int .i64) _ 3 ?hg (N := 81) ?hd (xs := ([1, 2] : List Int)) (inner := [.int .i64 1, .int .i64 2]) (ok := fun _ => True) (okp := fun _ => True) ?hr ?hp (fun _ hk => hk) trivial (Below.refl _ _) (Nat.le_refl _) (by simp) ?_; (case hd => rfl); (case hg => rfl); (case hr => first | (go_simp; done) | (go_simp; rfl)); (case hp => exact (Reps.one (show Kd.M (Kd.int .i64) _ _ _ 1 [.int .i64 1] from rfl) (Reps.one (show Kd.M (Kd.int .i64) _ _ _ 2 [.int .i64 2] from rfl) (Reps.none _ _))))
                    intro v171 w56 ho57 hb hg_ hnew_
                    have HS0_ := (hb.cell (World.block_lt_of_cell? _ _ (hHeld.1))).trans (hHeld.1)
                    have HS1_ := (hb.cell (World.block_lt_of_cell? _ _ (hHeld.2))).trans (hHeld.2)
                    clear hg_ hnew_
                    (first | rw [← Ny170.out] at ho57 | (simp only [Int.reduceToNat] at ho57; rw [← Ny170.out] at ho57))
                    have n0_ := Aside0.mk (Kd.Q_below (by (with_reducible repeat (first | apply Kd.Q_alloc | apply Kd.Q_drewN | apply Kd.Q_drew)); exact HO_4.out) hb)
                    have n1_ := Aside0.mk (Kd.R_lower ho57 (below_size (qb_ HB.out)))
                    have n2_ := Aside0.mk (blk_below (g := gb147) (o := .cells #[.int .i64 0, .int .i64 0] 24 (0, 0)) (qk_ BK147.out) hb)
                    have n3_ := Aside0.mk (below_step (qb_ HB.out) hb)
                    clear HO_4
                    clear BK147
                    clear HB
                    have HO_4 := n0_
                    have HO172 := n1_
                    have BK147 := n2_
                    have HB := n3_
                    clear n0_ n1_ n2_ n3_
                    clear hb ho57
                    refine hK.out _ _ ⟨HS0_, HS1_⟩ (fun hHeld => ?_)
                    clear hK K
                    refine norm_ (a' := ?_) ?_ ?_
                    rotate_left
                    ·show Act.put _ (some 81) _ = _
                     simp only [Act.put, List.setIfInBounds_toArray, List.set_cons_zero, List.set_cons_succ, i64_w, i32_w]
                     rfl
                    exact norm_ (by simp only [putAll, Act.put, List.setIfInBounds_toArray, List.set_cons_zero, List.set_cons_succ]) (hCont (v171) _ ⟨hHeld, (ql_ HO172.out), (by (with_reducible repeat (first | apply Kd.Q_alloc | apply Kd.Q_drewN | apply Kd.Q_drew)); exact HO_4.out), (qk_ BK147.out), (qb_ HB.out)⟩)
                   ·skip
                    refine Kd.R_lit_step (Kd.int .i64) _ 3 ?hg (N := 81) ?hd (xs := ([1, 2] : List Int)) (inner := [.int .i64 1, .int .i64 2]) (ok := fun _ => True) (okp := fun _ => True) ?hr ?hp (fun _ hk => hk) trivial (Below.refl _ _) (Nat.le_refl _) (by simp) ?_; (case hd => rfl); (case hg => rfl); (case hr => first | (go_simp; done) | (go_simp; rfl)); (case hp => exact (Reps.one (show Kd.M (Kd.int .i64) _ _ _ 1 [.int .i64 1] from rfl) (Reps.one (show Kd.M (Kd.int .i64) _ _ _ 2 [.int .i64 2] from rfl) (Reps.none _ _))))
                    intro v171 w55 ho56 hb hg_ hnew_
                    have HS0_ := (hb.cell (World.block_lt_of_cell? _ _ (hHeld.1))).trans (hHeld.1)
                    have HS1_ := (hb.cell (World.block_lt_of_cell? _ _ (hHeld.2))).trans (hHeld.2)
                    clear hg_ hnew_
                    (first | rw [← Ny170.out] at ho56 | (simp only [Int.reduceToNat] at ho56; rw [← Ny170.out] at ho56))
                    have n0_ := Aside0.mk (Kd.Q_below (by (with_reducible repeat (first | apply Kd.Q_alloc | apply Kd.Q_drewN | apply Kd.Q_drew)); exact HO_4.out) hb)
                    have n1_ := Aside0.mk (Kd.R_lower ho56 (below_size (qb_ HB.out)))
                    have n2_ := Aside0.mk (blk_below (g := gb147) (o := .cells #[.int .i64 0, .int .i64 0] 24 (0, 0)) (qk_ BK147.out) hb)
                    have n3_ := Aside0.mk (below_step (qb_ HB.out) hb)
                    clear HO_4
                    clear BK147
                    clear HB
                    have HO_4 := n0_
                    have HO172 := n1_
                    have BK147 := n2_
                    have HB := n3_
                    clear n0_ n1_ n2_ n3_
                    clear hb ho56
                    refine hK.out _ _ ⟨HS0_, HS1_⟩ (fun hHeld => ?_)
                    clear hK K
                    refine norm_ (a' := ?_) ?_ ?_
                    rotate_left
                    ·show Act.put _ (some 81) _ = _
                     simp only [Act.put, List.setIfInBounds_toArray, List.set_cons_zero, List.set_cons_succ, i64_w, i32_w]
                     rfl
                    refine one_ (i := 3) (N := some 76) #[true, true, true, true, true, true, true, true, true, false, false, false, false, false, false, false] rfl rfl (one_of HT_.out (by kernel_rfl)) (by decide) (fun K hK => ?_)
                    refine goes_ Tryd.func24 (by kernel_rfl) rfl #[.string (rdOf ByteArray.empty x4_15 2)] (by rfl) rfl rfl qa_ ?_
                    with_reducible refine (date_year.calls kj37 (rdOf ByteArray.empty x4_15 2) t168 _ A48.out).mono ?_
                    rintro e w57 ⟨rfl, hb⟩
                    have HS0_ := (hb.cell (World.block_lt_of_cell? _ _ (hHeld.1))).trans (hHeld.1)
                    have HS1_ := (hb.cell (World.block_lt_of_cell? _ _ (hHeld.2))).trans (hHeld.2)
                    refine ⟨_, rfl, ?_⟩
                    have n0_ := Aside0.mk (Kd.Q_below (by (with_reducible repeat (first | apply Kd.Q_alloc | apply Kd.Q_drewN | apply Kd.Q_drew)); exact HO_4.out) hb)
                    have n1_ := Aside0.mk (Kd.R_below (ql_ HO172.out) hb)
                    have n2_ := Aside0.mk (blk_below (g := gb147) (o := .cells #[.int .i64 0, .int .i64 0] 24 (0, 0)) (qk_ BK147.out) hb)
                    have n3_ := Aside0.mk (below_step (qb_ HB.out) hb)
                    clear HO_4
                    clear HO172
                    clear BK147
                    clear HB
                    have HO_4 := n0_
                    have HO172 := n1_
                    have BK147 := n2_
                    have HB := n3_
                    clear n0_ n1_ n2_ n3_
                    (try clear hb)
                    (try clear hb2)
                    (try clear hk)
                    (try clear hi)
                    refine hK.out _ _ ⟨HS0_, HS1_⟩ (fun hHeld => ?_)
                    clear hK K
                    refine norm_ (a' := ?_) ?_ ?_
                    rotate_left
                    ·show Act.put _ (some 76) _ = _
                     simp only [Act.put, List.setIfInBounds_toArray, List.set_cons_zero, List.set_cons_succ, i64_w, i32_w]
                     rfl
                    exact norm_ (by simp only [putAll, Act.put, List.setIfInBounds_toArray, List.set_cons_zero, List.set_cons_succ]) (hCont (v171) _ ⟨hHeld, (ql_ HO172.out), (by (with_reducible repeat (first | apply Kd.Q_alloc | apply Kd.Q_drewN | apply Kd.Q_drew)); exact HO_4.out), (qk_ BK147.out), (qb_ HB.out)⟩)
                  rintro v171 w58 ⟨hS_, h0_, h1_, h2_, h3_⟩
                  have n0_ : Aside0 (Kd.R (Kd.int .i64) 3 w58 w.heap.size (fun _ => True) v171 y170) := ⟨h0_⟩
                  have n1_ : Aside0 (Kd.Q Kd.string 9 w58 w.heap.size (fun _ => True) (.slice (some ad157) x4_15.length co30) x4_15) := ⟨h1_⟩
                  have n2_ : Aside0 (w58.heap[gb147]? = some (.cells #[.int .i64 0, .int .i64 0] 24 (0, 0))) := ⟨h2_⟩
                  have n3_ : Aside0 (Below w.heap.size w w58) := ⟨h3_⟩
                  clear HO_4
                  clear BK147
                  clear HB
                  clear h0_ h1_ h2_ h3_
                  have HO172 := n0_
                  have HO_4 := n1_
                  have BK147 := n2_
                  have HB := n3_
                  clear n0_ n1_ n2_ n3_
                  have hHeld : w58.cell? ⟨ad157.block, ad157.off + 2, none⟩ = some (.string (rdOf ByteArray.empty x4_15 2)) ∧ w58.cell? ad157 = some (.string (rdOf ByteArray.empty x4_15 0)) := hS_
                  obtain ⟨Ao59, co59, eo59⟩ := Kd.R_slice HO172.out
                  (first | subst eo59 | (injection eo59 with f1_ f2_ f3_; have f4_ := f1_.symm; have f5_ := f3_.symm; clear f1_ f2_ f3_; subst f4_; subst f5_))
                  refine norm_ (a' := ?_) ?_ ?_
                  rotate_left
                  ·simp only [putAll, Act.put, List.setIfInBounds_toArray, List.set_cons_zero, List.set_cons_succ]
                   rfl
                  refine one_ (i := 9) (N := some 82) #[true, true, true, true, true, true, true, true, true, true, false, false, false, false, false, false] rfl rfl (one_of HT_.out (by kernel_rfl)) (by decide) (fun K hK => ?_)
                  refine goes_ Tryd.func25 (by kernel_rfl) rfl #[.string (rdOf ByteArray.empty x4_15 0), .slice Ao59 y170.length co59] (by rfl) rfl rfl qa_ ?_
                  with_reducible refine (date_digits.calls kj37 (rdOf ByteArray.empty x4_15 0) _ _ y170 t173 _ ?side1 ?side2 A50.out).mono ?_
                  (case side1 => repeat (first | exact (Kd.R_reads' HO172.out).2.2 | (with_reducible refine Kd.C_alloc ?_ _) | (with_reducible refine Kd.C_drewN ?_ _) | (with_reducible refine Kd.C_drew ?_)))
                  (case side2 => exact (Kd.R_reads' HO172.out).2.1)
                  rintro e w' ⟨rfl, ⟨nd, rfl⟩⟩
                  refine ⟨_, rfl, ?_⟩
                  refine hK.out _ _ ⟨hHeld.1, hHeld.2⟩ (fun hHeld => ?_)
                  clear hK K
                  refine norm_ (a' := ?_) ?_ ?_
                  rotate_left
                  ·show Act.put _ (some 82) _ = _
                   simp only [Act.put, List.setIfInBounds_toArray, List.set_cons_zero, List.set_cons_succ, i64_w, i32_w]
                   rfl
                  refine one_ (i := 10) (N := some 83) #[true, true, true, true, true, true, true, true, true, true, true, false, false, false, false, false] rfl rfl (one_of HT_.out (by kernel_rfl)) (by decide) (fun K hK => ?_)
                  refine goes_ Tryd.func23 (by kernel_rfl) rfl #[.int .i64 t168, .int .i64 t158, .int .i64 t173] (by rfl) rfl rfl qa_ ?_
                  with_reducible refine (date_number.calls kj37 t168 t158 t173 t174 true _ A51.out).mono ?_
                  rintro e w' ⟨rfl, ⟨nd, rfl⟩⟩
                  refine ⟨_, rfl, ?_⟩
                  refine hK.out _ _ ⟨hHeld.1, hHeld.2⟩ (fun hHeld => ?_)
                  clear hK K
                  refine norm_ (a' := ?_) ?_ ?_
                  rotate_left
                  ·show Act.put _ (some 83) _ = _
                   simp only [Act.put, List.setIfInBounds_toArray, List.set_cons_zero, List.set_cons_succ, i64_w, i32_w]
                   rfl
                  refine pure_ (i := 11) (N := some 72) (v := ?_) (a' := ?_) #[true, true, true, true, true, true, true, true, true, true, true, true, false, false, false, false] rfl rfl (any_of HT_.out (by kernel_rfl)) (fun _ _ _ h => h) (Or.inl ⟨by rfl, ?_⟩) ?_ ?_
                  rotate_left
                  ·intro w'
                   go_simp
                   with_reducible rfl
                  rotate_left
                  ·simp only [Act.put, List.setIfInBounds_toArray, List.set_cons_zero, List.set_cons_succ, i64_w, i32_w]
                   rfl
                  refine pure_ (i := 12) (N := some 84) (v := ?_) (a' := ?_) #[true, true, true, true, true, true, true, true, true, true, true, true, true, false, false, false] rfl rfl (any_of HT_.out (by kernel_rfl)) (fun _ _ _ h => h) (Or.inl ⟨by rfl, ?_⟩) ?_ ?_
                  rotate_left
                  ·intro w'
                   go_simp
                   with_reducible rfl
                  rotate_left
                  ·simp only [Act.put, List.setIfInBounds_toArray, List.set_cons_zero, List.set_cons_succ, i64_w, i32_w]
                   rfl
                  refine pure_ (i := 13) (N := some 85) (v := ?_) (a' := ?_) #[true, true, true, true, true, true, true, true, true, true, true, true, true, true, false, false] rfl rfl (any_of HT_.out (by kernel_rfl)) (fun _ _ _ h => h) (Or.inl ⟨by rfl, ?_⟩) ?_ ?_
                  rotate_left
                  ·intro w'
                   go_simp
                   with_reducible rfl
                  rotate_left
                  ·simp only [Act.put, List.setIfInBounds_toArray, List.set_cons_zero, List.set_cons_succ, i64_w, i32_w]
                   rfl
                  refine pure_ (i := 14) (N := some 9) (v := ?_) (a' := ?_) #[true, true, true, true, true, true, true, true, true, true, true, true, true, true, true, false] rfl rfl (any_of HT_.out (by kernel_rfl)) (fun _ _ _ h => h) (Or.inl ⟨by rfl, ?_⟩) ?_ ?_
                  rotate_left
                  ·intro w'
                   go_simp
                   with_reducible rfl
                  rotate_left
                  ·simp only [Act.put, List.setIfInBounds_toArray, List.set_cons_zero, List.set_cons_succ, i64_w, i32_w]
                   rfl
                  refine pure_ (i := 15) (N := some 10) (v := ?_) (a' := ?_) #[true, true, true, true, true, true, true, true, true, true, true, true, true, true, true, true] rfl rfl (any_of HT_.out (by kernel_rfl)) (fun _ _ _ h => h) (Or.inl ⟨by rfl, ?_⟩) ?_ ?_
                  rotate_left
                  ·intro w'
                   go_simp
                   with_reducible rfl
                  rotate_left
                  ·simp only [Act.put, List.setIfInBounds_toArray, List.set_cons_zero, List.set_cons_succ, i64_w, i32_w]
                   rfl
                  refine done_ (done_of HT_.out (by kernel_rfl)) ?_
                  try go_wp2_with (first | ((with_reducible refine gate_callee (f := 26) rfl ?_); refine goesL_ (some 92) rfl rfl Tryd.func26 (by kernel_rfl) rfl #[.int .i64 t174, .int .i64 t166, .int .i64 x6_28] rfl qa_ ?_; (with_reducible refine (date_moment.calls t174 t166 x6_28 t176 t177 _ A53.out).mono ?_); rintro e w60 ⟨rfl, hb⟩; refine ⟨_, rfl, ?_⟩; have n0_ := Aside0.mk (Kd.Q_below (by (with_reducible repeat (first | apply Kd.Q_alloc | apply Kd.Q_drewN | apply Kd.Q_drew)); exact HO_4.out) hb); have n1_ := Aside0.mk (Kd.R_below (ql_ HO172.out) hb); have n2_ := Aside0.mk (blk_below (g := gb147) (o := .cells #[.int .i64 0, .int .i64 0] 24 (0, 0)) (qk_ BK147.out) hb); have n3_ := Aside0.mk (below_step (qb_ HB.out) hb); clear HO_4; clear HO172; clear BK147; clear HB; have HO_4 := n0_; have HO172 := n1_; have BK147 := n2_; have HB := n3_; clear n0_ n1_ n2_ n3_; (try clear hb); (try clear hb2); (try clear hk); (try clear hi); have hcz61_0 : w60.cell? ⟨gb147, 0, none⟩ = some (.int .i64 0) := (blk_cell BK147.out 0).trans rfl; have hcz61_1 : w60.cell? ⟨gb147, 1, none⟩ = some (.int .i64 0) := (blk_cell BK147.out 1).trans rfl; have hfz61_0 := blk_frozen BK147.out 0; have hfz61_1 := blk_frozen BK147.out 1))
                  refine bodyPost_ret (results_ct rfl _ _ gb147 24 #[.int .i64 t176, .int .i64 t177] (0, 0) _ rfl (qs2_ (qk_ BK147.out)) Tryd.underlying24 rfl (by kernel_rfl)) rfl ?_
                  exact ⟨qw_, qb_ HB.out⟩
                 ·replace c52 := Bool.eq_false_iff.mpr c52
                  subst c52
                  have H1 : (some (0, 0, false)) = some (r1, r2, r3) := by rw [if_neg (show ¬ (false = true) by decide)] at H; exact H
                  clear H
                  have H := H1
                  clear H1
                  simp only [Option.some.injEq, Prod.mk.injEq] at H
                  obtain ⟨rfl, rfl, rfl⟩ := H
                  try go_wp2
                  have n0_ := Aside0.mk (Kd.Q_drew HO_4.out)
                  have n1_ := Aside0.mk (blk_drew BK147.out)
                  have n2_ := Aside0.mk (below_drew1 HB.out)
                  clear HO_4
                  clear BK147
                  clear HB
                  have HO_4 := n0_
                  have BK147 := n1_
                  have HB := n2_
                  clear n0_ n1_ n2_
                  have p167 : 0 ≤ (2 : Int) := (by omega)
                  have q167 : 2 < (x4_15.length : Int) := qd_
                  obtain ⟨ad167, e167, hx167_0⟩ := Kd.at_string (Kd.Q_reads' HO_4.out).2.2 2 p167 q167
                  obtain rfl : ad157 = ad167 := (by injection e167)
                  (try simp only [show (2 : Int).toNat = 2 from rfl, Nat.reduceMul, Nat.reduceEqDiff, Go.Addr.add, ↓reduceIte] at hx167_0)
                  have qi167 : (2 < x4_15.length) = True := eq_true (by omega)
                  (try rw [show ((2 : Int)).toNat = 2 from rfl] at hx167_0)
                  replace p167 := eq_true p167
                  replace q167 := eq_true q167
                  have p169 : 0 ≤ (0 : Int) := (by omega)
                  have q169 : 0 < (x4_15.length : Int) := qd_
                  obtain ⟨ad169, e169, hx169_0⟩ := Kd.at_string (Kd.Q_reads' HO_4.out).2.2 0 p169 q169
                  obtain rfl : ad157 = ad169 := (by injection e169)
                  have qi169 : (0 < x4_15.length) = True := eq_true (by omega)
                  (try rw [show ((0 : Int)).toNat = 0 from rfl] at hx169_0)
                  (try rw [Addr.add_zero'] at hx169_0)
                  replace p169 := eq_true p169
                  replace q169 := eq_true q169
                  refine start_ (n := 16) (S := fun w' => w'.cell? ⟨ad157.block, ad157.off + 2, none⟩ = some (.string (rdOf ByteArray.empty x4_15 2)) ∧ w'.cell? ad157 = some (.string (rdOf ByteArray.empty x4_15 0))) (ds := []) #[false, false, false, false, false, false, false, false, false, false, false, false, false, false, false, false] (by kernel_rfl) rfl rfl ⟨hx167_0, hx169_0⟩ (fun hHeld => ?_); refine with_tabW date_Parse.tab12 date_Parse.bits12 (fun HT_ HW_ => ?_)
                  generalize wc.drew = w62 at HO_4 BK147 HB hx167_0 hx169_0 hHeld ⊢
                  refine pure_ (i := 0) (N := some 73) (v := ?_) (a' := ?_) #[true, false, false, false, false, false, false, false, false, false, false, false, false, false, false, false] rfl rfl (any_of HT_.out (by kernel_rfl)) (fun _ _ _ h => h) (Or.inl ⟨by rfl, ?_⟩) ?_ ?_
                  rotate_left
                  ·intro w'
                   go_simp
                   with_reducible rfl
                  rotate_left
                  ·simp only [Act.put, List.setIfInBounds_toArray, List.set_cons_zero, List.set_cons_succ, i64_w, i32_w]
                   rfl
                  refine pure_ (i := 1) (N := some 74) (v := ?_) (a' := ?_) #[true, true, false, false, false, false, false, false, false, false, false, false, false, false, false, false] rfl rfl (any_of HT_.out (by kernel_rfl)) (fun _ _ _ h => h) (Or.inl ⟨by rfl, ?_⟩) ?_ ?_
                  rotate_left
                  ·intro w'
                   go_simp
                   with_reducible rfl
                  rotate_left
                  ·simp only [Act.put, List.setIfInBounds_toArray, List.set_cons_zero, List.set_cons_succ, i64_w, i32_w]
                   rfl
                  refine pure_ (i := 4) (N := some 77) (v := ?_) (a' := ?_) #[true, true, false, false, true, false, false, false, false, false, false, false, false, false, false, false] rfl rfl (any_of HT_.out (by kernel_rfl)) (fun _ _ _ h => h) (Or.inl ⟨by rfl, ?_⟩) ?_ ?_
                  rotate_left
                  ·intro w'
                   go_simp
                   with_reducible rfl
                  rotate_left
                  ·simp only [Act.put, List.setIfInBounds_toArray, List.set_cons_zero, List.set_cons_succ, i64_w, i32_w]
                   rfl
                  refine pure_ (i := 5) (N := some 78) (v := ?_) (a' := ?_) #[true, true, false, false, true, true, false, false, false, false, false, false, false, false, false, false] rfl rfl (any_of HT_.out (by kernel_rfl)) (fun _ _ _ h => h) (Or.inl ⟨by rfl, ?_⟩) ?_ ?_
                  rotate_left
                  ·intro w'
                   go_simp
                   with_reducible rfl
                  rotate_left
                  ·simp only [Act.put, List.setIfInBounds_toArray, List.set_cons_zero, List.set_cons_succ, i64_w, i32_w]
                   rfl
                  refine pure_ (i := 6) (N := some 79) (v := ?_) (a' := ?_) #[true, true, false, false, true, true, true, false, false, false, false, false, false, false, false, false] rfl rfl (any_of HT_.out (by kernel_rfl)) (fun _ _ _ h => h) (Or.inl ⟨by rfl, ?_⟩) ?_ ?_
                  rotate_left
                  ·intro w'
                   go_simp
                   with_reducible rfl
                  rotate_left
                  ·simp only [Act.put, List.setIfInBounds_toArray, List.set_cons_zero, List.set_cons_succ, i64_w, i32_w]
                   rfl
                  refine take_ (i := 2) (N := some 75) (v := ?_) (a' := ?_) #[true, true, true, false, true, true, true, false, false, false, false, false, false, false, false, false] rfl rfl (take_ofW HT_.out HW_.out (by kernel_rfl)) (fun _ _ _ h => h) (Or.inl ⟨by rfl, ?_⟩) hHeld ?_ ?_
                  rotate_left
                  ·rintro w' ⟨s0, s1⟩
                   go_simp
                   with_reducible rfl
                  rotate_left
                  ·simp only [Act.put, List.setIfInBounds_toArray, List.set_cons_zero, List.set_cons_succ, i64_w, i32_w]
                   rfl
                  refine take_ (i := 7) (N := some 80) (v := ?_) (a' := ?_) #[true, true, true, false, true, true, true, true, false, false, false, false, false, false, false, false] rfl rfl (take_ofW HT_.out HW_.out (by kernel_rfl)) (fun _ _ _ h => h) (Or.inl ⟨by rfl, ?_⟩) hHeld ?_ ?_
                  rotate_left
                  ·rintro w' ⟨s0, s1⟩
                   go_simp
                   with_reducible rfl
                  rotate_left
                  ·simp only [Act.put, List.setIfInBounds_toArray, List.set_cons_zero, List.set_cons_succ, i64_w, i32_w]
                   rfl
                  refine join_ (σ := Value) 7 #[true, true, true, true, true, true, true, true, true, false, false, false, false, false, false, false] (fun s_ => [(76, .int .i64 t168), (81, s_)]) (fun s_ w' => (w'.cell? ⟨ad157.block, ad157.off + 2, none⟩ = some (.string (rdOf ByteArray.empty x4_15 2)) ∧ w'.cell? ad157 = some (.string (rdOf ByteArray.empty x4_15 0))) ∧ (Kd.R (Kd.int .i64) 3 w' w.heap.size (fun _ => True) s_ y170) ∧ (Kd.Q Kd.string 9 w' w.heap.size (fun _ => True) (.slice (some ad157) x4_15.length co30) x4_15) ∧ (w'.heap[gb147]? = some (.cells #[.int .i64 0, .int .i64 0] 24 (0, 0))) ∧ (Below w.heap.size w w')) ?_ ?_
                  rotate_left
                  ·intro hCont
                   refine two_ (i := 3) (j := 8) (Ni := some 76) (Nj := some 81) #[true, true, true, true, true, true, true, true, false, false, false, false, false, false, false, false] #[true, true, true, false, true, true, true, true, true, false, false, false, false, false, false, false] rfl rfl rfl rfl (two_of HT_.out (by kernel_rfl)) (by decide) (by decide) (fun K hK => ?_) (fun K hK => ?_)
                   ·skip
                    refine goes_ Tryd.func24 (by kernel_rfl) rfl #[.string (rdOf ByteArray.empty x4_15 2)] (by rfl) rfl rfl qa_ ?_
                    with_reducible refine (date_year.calls kj37 (rdOf ByteArray.empty x4_15 2) t168 _ A48.out).mono ?_
                    rintro e w63 ⟨rfl, hb⟩
                    have HS0_ := (hb.cell (World.block_lt_of_cell? _ _ (hHeld.1))).trans (hHeld.1)
                    have HS1_ := (hb.cell (World.block_lt_of_cell? _ _ (hHeld.2))).trans (hHeld.2)
                    refine ⟨_, rfl, ?_⟩
                    have n0_ := Aside0.mk (Kd.Q_below (by (with_reducible repeat (first | apply Kd.Q_alloc | apply Kd.Q_drewN | apply Kd.Q_drew)); exact HO_4.out) hb)
                    have n1_ := Aside0.mk (blk_below (g := gb147) (o := .cells #[.int .i64 0, .int .i64 0] 24 (0, 0)) (qk_ BK147.out) hb)
                    have n2_ := Aside0.mk (below_step (qb_ HB.out) hb)
                    clear HO_4
                    clear BK147
                    clear HB
                    have HO_4 := n0_
                    have BK147 := n1_
                    have HB := n2_
                    clear n0_ n1_ n2_
                    (try clear hb)
                    (try clear hb2)
                    (try clear hk)
                    (try clear hi)
                    refine hK.out _ _ ⟨HS0_, HS1_⟩ (fun hHeld => ?_)
                    clear hK K
                    refine norm_ (a' := ?_) ?_ ?_
                    rotate_left
                    ·show Act.put _ (some 76) _ = _
                     simp only [Act.put, List.setIfInBounds_toArray, List.set_cons_zero, List.set_cons_succ, i64_w, i32_w]
                     rfl
                    refine one_ (i := 8) (N := some 81) #[true, true, true, true, true, true, true, true, true, false, false, false, false, false, false, false] rfl rfl (one_of HT_.out (by kernel_rfl)) (by decide) (fun K hK => ?_)
                    refine Kd.R_lit_step (Kd.int .i64) _ 3 ?hg (N := 81) ?hd (xs := ([1, 2] : List Int)) (inner := [.int .i64 1, .int .i64 2]) (ok := fun _ => True) (okp := fun _ => True) ?hr ?hp (fun _ hk => hk) trivial (Below.refl _ _) (Nat.le_refl _) (by simp) ?_; (case hd => rfl); (case hg => rfl); (case hr => first | (go_simp; done) | (go_simp; rfl)); (case hp => exact (Reps.one (show Kd.M (Kd.int .i64) _ _ _ 1 [.int .i64 1] from rfl) (Reps.one (show Kd.M (Kd.int .i64) _ _ _ 2 [.int .i64 2] from rfl) (Reps.none _ _))))
                    intro v171 w64 ho65 hb hg_ hnew_
                    have HS0_ := (hb.cell (World.block_lt_of_cell? _ _ (hHeld.1))).trans (hHeld.1)
                    have HS1_ := (hb.cell (World.block_lt_of_cell? _ _ (hHeld.2))).trans (hHeld.2)
                    clear hg_ hnew_
                    (first | rw [← Ny170.out] at ho65 | (simp only [Int.reduceToNat] at ho65; rw [← Ny170.out] at ho65))
                    have n0_ := Aside0.mk (Kd.Q_below (by (with_reducible repeat (first | apply Kd.Q_alloc | apply Kd.Q_drewN | apply Kd.Q_drew)); exact HO_4.out) hb)
                    have n1_ := Aside0.mk (Kd.R_lower ho65 (below_size (qb_ HB.out)))
                    have n2_ := Aside0.mk (blk_below (g := gb147) (o := .cells #[.int .i64 0, .int .i64 0] 24 (0, 0)) (qk_ BK147.out) hb)
                    have n3_ := Aside0.mk (below_step (qb_ HB.out) hb)
                    clear HO_4
                    clear BK147
                    clear HB
                    have HO_4 := n0_
                    have HO172 := n1_
                    have BK147 := n2_
                    have HB := n3_
                    clear n0_ n1_ n2_ n3_
                    clear hb ho65
                    refine hK.out _ _ ⟨HS0_, HS1_⟩ (fun hHeld => ?_)
                    clear hK K
                    refine norm_ (a' := ?_) ?_ ?_
                    rotate_left
                    ·show Act.put _ (some 81) _ = _
                     simp only [Act.put, List.setIfInBounds_toArray, List.set_cons_zero, List.set_cons_succ, i64_w, i32_w]
                     rfl
                    exact norm_ (by simp only [putAll, Act.put, List.setIfInBounds_toArray, List.set_cons_zero, List.set_cons_succ]) (hCont (v171) _ ⟨hHeld, (ql_ HO172.out), (by (with_reducible repeat (first | apply Kd.Q_alloc | apply Kd.Q_drewN | apply Kd.Q_drew)); exact HO_4.out), (qk_ BK147.out), (qb_ HB.out)⟩)
                   ·skip
                    refine Kd.R_lit_step (Kd.int .i64) _ 3 ?hg (N := 81) ?hd (xs := ([1, 2] : List Int)) (inner := [.int .i64 1, .int .i64 2]) (ok := fun _ => True) (okp := fun _ => True) ?hr ?hp (fun _ hk => hk) trivial (Below.refl _ _) (Nat.le_refl _) (by simp) ?_; (case hd => rfl); (case hg => rfl); (case hr => first | (go_simp; done) | (go_simp; rfl)); (case hp => exact (Reps.one (show Kd.M (Kd.int .i64) _ _ _ 1 [.int .i64 1] from rfl) (Reps.one (show Kd.M (Kd.int .i64) _ _ _ 2 [.int .i64 2] from rfl) (Reps.none _ _))))
                    intro v171 w63 ho64 hb hg_ hnew_
                    have HS0_ := (hb.cell (World.block_lt_of_cell? _ _ (hHeld.1))).trans (hHeld.1)
                    have HS1_ := (hb.cell (World.block_lt_of_cell? _ _ (hHeld.2))).trans (hHeld.2)
                    clear hg_ hnew_
                    (first | rw [← Ny170.out] at ho64 | (simp only [Int.reduceToNat] at ho64; rw [← Ny170.out] at ho64))
                    have n0_ := Aside0.mk (Kd.Q_below (by (with_reducible repeat (first | apply Kd.Q_alloc | apply Kd.Q_drewN | apply Kd.Q_drew)); exact HO_4.out) hb)
                    have n1_ := Aside0.mk (Kd.R_lower ho64 (below_size (qb_ HB.out)))
                    have n2_ := Aside0.mk (blk_below (g := gb147) (o := .cells #[.int .i64 0, .int .i64 0] 24 (0, 0)) (qk_ BK147.out) hb)
                    have n3_ := Aside0.mk (below_step (qb_ HB.out) hb)
                    clear HO_4
                    clear BK147
                    clear HB
                    have HO_4 := n0_
                    have HO172 := n1_
                    have BK147 := n2_
                    have HB := n3_
                    clear n0_ n1_ n2_ n3_
                    clear hb ho64
                    refine hK.out _ _ ⟨HS0_, HS1_⟩ (fun hHeld => ?_)
                    clear hK K
                    refine norm_ (a' := ?_) ?_ ?_
                    rotate_left
                    ·show Act.put _ (some 81) _ = _
                     simp only [Act.put, List.setIfInBounds_toArray, List.set_cons_zero, List.set_cons_succ, i64_w, i32_w]
                     rfl
                    refine one_ (i := 3) (N := some 76) #[true, true, true, true, true, true, true, true, true, false, false, false, false, false, false, false] rfl rfl (one_of HT_.out (by kernel_rfl)) (by decide) (fun K hK => ?_)
                    refine goes_ Tryd.func24 (by kernel_rfl) rfl #[.string (rdOf ByteArray.empty x4_15 2)] (by rfl) rfl rfl qa_ ?_
                    with_reducible refine (date_year.calls kj37 (rdOf ByteArray.empty x4_15 2) t168 _ A48.out).mono ?_
                    rintro e w65 ⟨rfl, hb⟩
                    have HS0_ := (hb.cell (World.block_lt_of_cell? _ _ (hHeld.1))).trans (hHeld.1)
                    have HS1_ := (hb.cell (World.block_lt_of_cell? _ _ (hHeld.2))).trans (hHeld.2)
                    refine ⟨_, rfl, ?_⟩
                    have n0_ := Aside0.mk (Kd.Q_below (by (with_reducible repeat (first | apply Kd.Q_alloc | apply Kd.Q_drewN | apply Kd.Q_drew)); exact HO_4.out) hb)
                    have n1_ := Aside0.mk (Kd.R_below (ql_ HO172.out) hb)
                    have n2_ := Aside0.mk (blk_below (g := gb147) (o := .cells #[.int .i64 0, .int .i64 0] 24 (0, 0)) (qk_ BK147.out) hb)
                    have n3_ := Aside0.mk (below_step (qb_ HB.out) hb)
                    clear HO_4
                    clear HO172
                    clear BK147
                    clear HB
                    have HO_4 := n0_
                    have HO172 := n1_
                    have BK147 := n2_
                    have HB := n3_
                    clear n0_ n1_ n2_ n3_
                    (try clear hb)
                    (try clear hb2)
                    (try clear hk)
                    (try clear hi)
                    refine hK.out _ _ ⟨HS0_, HS1_⟩ (fun hHeld => ?_)
                    clear hK K
                    refine norm_ (a' := ?_) ?_ ?_
                    rotate_left
                    ·show Act.put _ (some 76) _ = _
                     simp only [Act.put, List.setIfInBounds_toArray, List.set_cons_zero, List.set_cons_succ, i64_w, i32_w]
                     rfl
                    exact norm_ (by simp only [putAll, Act.put, List.setIfInBounds_toArray, List.set_cons_zero, List.set_cons_succ]) (hCont (v171) _ ⟨hHeld, (ql_ HO172.out), (by (with_reducible repeat (first | apply Kd.Q_alloc | apply Kd.Q_drewN | apply Kd.Q_drew)); exact HO_4.out), (qk_ BK147.out), (qb_ HB.out)⟩)
                  rintro v171 w66 ⟨hS_, h0_, h1_, h2_, h3_⟩
                  have n0_ : Aside0 (Kd.R (Kd.int .i64) 3 w66 w.heap.size (fun _ => True) v171 y170) := ⟨h0_⟩
                  have n1_ : Aside0 (Kd.Q Kd.string 9 w66 w.heap.size (fun _ => True) (.slice (some ad157) x4_15.length co30) x4_15) := ⟨h1_⟩
                  have n2_ : Aside0 (w66.heap[gb147]? = some (.cells #[.int .i64 0, .int .i64 0] 24 (0, 0))) := ⟨h2_⟩
                  have n3_ : Aside0 (Below w.heap.size w w66) := ⟨h3_⟩
                  clear HO_4
                  clear BK147
                  clear HB
                  clear h0_ h1_ h2_ h3_
                  have HO172 := n0_
                  have HO_4 := n1_
                  have BK147 := n2_
                  have HB := n3_
                  clear n0_ n1_ n2_ n3_
                  have hHeld : w66.cell? ⟨ad157.block, ad157.off + 2, none⟩ = some (.string (rdOf ByteArray.empty x4_15 2)) ∧ w66.cell? ad157 = some (.string (rdOf ByteArray.empty x4_15 0)) := hS_
                  obtain ⟨Ao67, co67, eo67⟩ := Kd.R_slice HO172.out
                  (first | subst eo67 | (injection eo67 with f1_ f2_ f3_; have f4_ := f1_.symm; have f5_ := f3_.symm; clear f1_ f2_ f3_; subst f4_; subst f5_))
                  refine norm_ (a' := ?_) ?_ ?_
                  rotate_left
                  ·simp only [putAll, Act.put, List.setIfInBounds_toArray, List.set_cons_zero, List.set_cons_succ]
                   rfl
                  refine one_ (i := 9) (N := some 82) #[true, true, true, true, true, true, true, true, true, true, false, false, false, false, false, false] rfl rfl (one_of HT_.out (by kernel_rfl)) (by decide) (fun K hK => ?_)
                  refine goes_ Tryd.func25 (by kernel_rfl) rfl #[.string (rdOf ByteArray.empty x4_15 0), .slice Ao67 y170.length co67] (by rfl) rfl rfl qa_ ?_
                  with_reducible refine (date_digits.calls kj37 (rdOf ByteArray.empty x4_15 0) _ _ y170 t173 _ ?side1 ?side2 A50.out).mono ?_
                  (case side1 => repeat (first | exact (Kd.R_reads' HO172.out).2.2 | (with_reducible refine Kd.C_alloc ?_ _) | (with_reducible refine Kd.C_drewN ?_ _) | (with_reducible refine Kd.C_drew ?_)))
                  (case side2 => exact (Kd.R_reads' HO172.out).2.1)
                  rintro e w' ⟨rfl, ⟨nd, rfl⟩⟩
                  refine ⟨_, rfl, ?_⟩
                  refine hK.out _ _ ⟨hHeld.1, hHeld.2⟩ (fun hHeld => ?_)
                  clear hK K
                  refine norm_ (a' := ?_) ?_ ?_
                  rotate_left
                  ·show Act.put _ (some 82) _ = _
                   simp only [Act.put, List.setIfInBounds_toArray, List.set_cons_zero, List.set_cons_succ, i64_w, i32_w]
                   rfl
                  refine one_ (i := 10) (N := some 83) #[true, true, true, true, true, true, true, true, true, true, true, false, false, false, false, false] rfl rfl (one_of HT_.out (by kernel_rfl)) (by decide) (fun K hK => ?_)
                  refine goes_ Tryd.func23 (by kernel_rfl) rfl #[.int .i64 t168, .int .i64 t158, .int .i64 t173] (by rfl) rfl rfl qa_ ?_
                  with_reducible refine (date_number.calls kj37 t168 t158 t173 t174 false _ A51.out).mono ?_
                  rintro e w' ⟨rfl, ⟨nd, rfl⟩⟩
                  refine ⟨_, rfl, ?_⟩
                  refine hK.out _ _ ⟨hHeld.1, hHeld.2⟩ (fun hHeld => ?_)
                  clear hK K
                  refine norm_ (a' := ?_) ?_ ?_
                  rotate_left
                  ·show Act.put _ (some 83) _ = _
                   simp only [Act.put, List.setIfInBounds_toArray, List.set_cons_zero, List.set_cons_succ, i64_w, i32_w]
                   rfl
                  refine pure_ (i := 11) (N := some 72) (v := ?_) (a' := ?_) #[true, true, true, true, true, true, true, true, true, true, true, true, false, false, false, false] rfl rfl (any_of HT_.out (by kernel_rfl)) (fun _ _ _ h => h) (Or.inl ⟨by rfl, ?_⟩) ?_ ?_
                  rotate_left
                  ·intro w'
                   go_simp
                   with_reducible rfl
                  rotate_left
                  ·simp only [Act.put, List.setIfInBounds_toArray, List.set_cons_zero, List.set_cons_succ, i64_w, i32_w]
                   rfl
                  refine pure_ (i := 12) (N := some 84) (v := ?_) (a' := ?_) #[true, true, true, true, true, true, true, true, true, true, true, true, true, false, false, false] rfl rfl (any_of HT_.out (by kernel_rfl)) (fun _ _ _ h => h) (Or.inl ⟨by rfl, ?_⟩) ?_ ?_
                  rotate_left
                  ·intro w'
                   go_simp
                   with_reducible rfl
                  rotate_left
                  ·simp only [Act.put, List.setIfInBounds_toArray, List.set_cons_zero, List.set_cons_succ, i64_w, i32_w]
                   rfl
                  refine pure_ (i := 13) (N := some 85) (v := ?_) (a' := ?_) #[true, true, true, true, true, true, true, true, true, true, true, true, true, true, false, false] rfl rfl (any_of HT_.out (by kernel_rfl)) (fun _ _ _ h => h) (Or.inl ⟨by rfl, ?_⟩) ?_ ?_
                  rotate_left
                  ·intro w'
                   go_simp
                   with_reducible rfl
                  rotate_left
                  ·simp only [Act.put, List.setIfInBounds_toArray, List.set_cons_zero, List.set_cons_succ, i64_w, i32_w]
                   rfl
                  refine pure_ (i := 14) (N := some 9) (v := ?_) (a' := ?_) #[true, true, true, true, true, true, true, true, true, true, true, true, true, true, true, false] rfl rfl (any_of HT_.out (by kernel_rfl)) (fun _ _ _ h => h) (Or.inl ⟨by rfl, ?_⟩) ?_ ?_
                  rotate_left
                  ·intro w'
                   go_simp
                   with_reducible rfl
                  rotate_left
                  ·simp only [Act.put, List.setIfInBounds_toArray, List.set_cons_zero, List.set_cons_succ, i64_w, i32_w]
                   rfl
                  refine pure_ (i := 15) (N := some 10) (v := ?_) (a' := ?_) #[true, true, true, true, true, true, true, true, true, true, true, true, true, true, true, true] rfl rfl (any_of HT_.out (by kernel_rfl)) (fun _ _ _ h => h) (Or.inl ⟨by rfl, ?_⟩) ?_ ?_
                  rotate_left
                  ·intro w'
                   go_simp
                   with_reducible rfl
                  rotate_left
                  ·simp only [Act.put, List.setIfInBounds_toArray, List.set_cons_zero, List.set_cons_succ, i64_w, i32_w]
                   rfl
                  refine done_ (done_of HT_.out (by kernel_rfl)) ?_
                  obtain ⟨hcz68_0, hcz68_1, hfz68_0, hfz68_1⟩ := cz2_ BK147.out
                  try go_wp2
                  refine bodyPost_ret (results_ct rfl _ _ gb147 24 #[.int .i64 0, .int .i64 0] (0, 0) _ rfl (qs2_ (qk_ BK147.out)) Tryd.underlying24 rfl (by kernel_rfl)) rfl ?_
                  exact ⟨qw_, qb_ HB.out⟩
                ·rw [if_neg c49] at H
                 exact absurd H (by simp)
               ·rw [if_neg c47] at H
                exact absurd H (by simp)
           ·rw [if_neg c36] at H
            exact absurd H (by simp)
        ·rw [if_neg c27] at H
         exact absurd H (by simp)

end Go.Proofs.YtmbiggcapakjjaaDoor.P
