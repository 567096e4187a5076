-- Written by a program of this session (wip/tools/mk.sh) for this claim: it runs the kit's print with contracts of our own. Lean checks it.
import Derived.Test.YtmbiggcapakjjaaDoorPx0
import Derived.Test.YtmbiggcapakjjaaDoorWRepsOne
import Derived.Test.YtmbiggcapakjjaaDoorWGuard
import Derived.Test.YtmbiggcapakjjaaDoorWTab
import Derived.Test.YtmbiggcapakjjaaDoorZSplit
import Derived.Test.YtmbiggcapakjjaaDoorPx10
import Derived.Test.YtmbiggcapakjjaaDoorPx12
import Derived.Test.YtmbiggcapakjjaaDoorPx13
namespace Go.Proofs.YtmbiggcapakjjaaDoor.P
open Go.RowKit Go.Proofs.YtmbiggcapakjjaaDoorW.PrintWords Go.Proofs.YtmbiggcapakjjaaDoorW.PrintLast Go.Proofs.YtmbiggcapakjjaaDoorW.PrintMore
attribute [-simp] Int.tmod_tmod_of_dvd
attribute [local go_sem] max2_int min2_int max_two min_two max_three min_three max_four min_four   -- for this text's walks alone
set_option linter.unusedVariables false
set_option linter.unusedSimpArgs false

/-! ### letterboxref11_Parse: function 9 -/
mutual
def letterboxref11_Parse.j0 : Nat → List ByteArray → Bool → Option (Int × Int × Bool)
 | 0, _, _ => none
 | k + 1, x4, x30 => if x30 = true then (if 1 ≤ (x4.length : Int) then (letterboxref11_Parse.j1 k (x4.drop (1 : Int).toNat)) else (none)) else (letterboxref11_Parse.j1 k x4)
def letterboxref11_Parse.j1 : Nat → List ByteArray → Option (Int × Int × Bool)
 | 0, _ => none
 | k + 1, x4 => if (x4.length : Int) < 4 then (letterboxref11_Parse.j2 k x4 true) else (letterboxref11_Parse.j2 k x4 (decide ((x4.length : Int) > 5)))
def letterboxref11_Parse.j2 : Nat → List ByteArray → Bool → Option (Int × Int × Bool)
 | 0, _, _ => none
 | k + 1, x4, x40 => if x40 = true then (some (0, 0, false)) else (if 2 < (x4.length : Int) then ((letterboxref11_digits.f k (rdOf ByteArray.empty x4 2) 2 4).bind fun t288 => (if ((rdOf ByteArray.empty x4 2).size : Int) = 3 then (letterboxref11_Parse.j3 k x4 (-1)) else (letterboxref11_Parse.j3 k x4 t288))) else (none))
def letterboxref11_Parse.j3 : Nat → List ByteArray → Int → Option (Int × Int × Bool)
 | 0, _, _ => none
 | k + 1, x4, x5 => if 2 < (x4.length : Int) then (if ((rdOf ByteArray.empty x4 2).size : Int) = 2 then (letterboxref11_Parse.j4 k x4 x5 (decide (x5 ≥ 0))) else (letterboxref11_Parse.j4 k x4 x5 false)) else (none)
def letterboxref11_Parse.j4 : Nat → List ByteArray → Int → Bool → Option (Int × Int × Bool)
 | 0, _, _, _ => none
 | k + 1, x4, x5, x59 => if x59 = true then (if (wrap64 (x5 + 1900)) < 1950 then (letterboxref11_Parse.j5 k x4 (wrap64 ((wrap64 (x5 + 1900)) + 100))) else (letterboxref11_Parse.j5 k x4 (wrap64 (x5 + 1900)))) else (letterboxref11_Parse.j5 k x4 x5)
def letterboxref11_Parse.j5 : Nat → List ByteArray → Int → Option (Int × Int × Bool)
 | 0, _, _ => none
 | k + 1, x4, x5 => if (x4.length : Int) = 5 then (if 4 < (x4.length : Int) then ((letterboxref11_zone.f k (rdOf ByteArray.empty x4 4)).bind fun bt292 => (letterboxref11_Parse.j6 k x4 x5 bt292.1 bt292.2)) else (none)) else (letterboxref11_Parse.j6 k x4 x5 0 true)
def letterboxref11_Parse.j6 : Nat → List ByteArray → Int → Int → Bool → Option (Int × Int × Bool)
 | 0, _, _, _, _ => none
 | k + 1, x4, x5, x6, x7 => if 3 < (x4.length : Int) then ((letterboxref11_clock.f k (rdOf ByteArray.empty x4 3) false 60).bind fun t295 => (if 1 < (x4.length : Int) then ((letterboxref11_month.f k (rdOf ByteArray.empty x4 1)).bind fun t297 => (if 0 < (x4.length : Int) then ((letterboxref11_digits.f k (rdOf ByteArray.empty x4 0) 1 2).bind fun t299 => ((letterboxref11_number.f k x5 t297 t299).bind fun bt300 => (if x7 = true then (if t295 < 0 then (some (0, 0, false)) else (if bt300.2 = true then (some (wrap64 ((wrap64 ((wrap64 (86400 * bt300.1)) + t295)) - (wrap64 (60 * x6))), x6, true)) else (some (0, 0, false)))) else (some (0, 0, false))))) else (none))) else (none))) else (none)
end
def letterboxref11_Parse.f (k : Nat) (a0 : ByteArray) : Option (Int × Int × Bool) := (letterboxref11_bare.f k a0).bind fun t278 => ((letterboxref11_parts.f k t278).bind fun t279 => (if (t279.length : Int) > 0 then (if 0 < (t279.length : Int) then (if ((rdOf ByteArray.empty t279 0).size : Int) = 4 then (if 3 < ((rdOf ByteArray.empty t279 0).size : Int) then (letterboxref11_Parse.j0 k t279 ((bt (rdOf ByteArray.empty t279 0) 3) == 44)) else (none)) else (letterboxref11_Parse.j0 k t279 false)) else (none)) else (letterboxref11_Parse.j0 k t279 false)))
theorem letterboxref11_Parse.mono_l : ∀ k, (∀ y0 y1, LeO (letterboxref11_Parse.j0 k y0 y1) (letterboxref11_Parse.j0 (k + 1) y0 y1)) ∧ (∀ y0, LeO (letterboxref11_Parse.j1 k y0) (letterboxref11_Parse.j1 (k + 1) y0)) ∧ (∀ y0 y1, LeO (letterboxref11_Parse.j2 k y0 y1) (letterboxref11_Parse.j2 (k + 1) y0 y1)) ∧ (∀ y0 y1, LeO (letterboxref11_Parse.j3 k y0 y1) (letterboxref11_Parse.j3 (k + 1) y0 y1)) ∧ (∀ y0 y1 y2, LeO (letterboxref11_Parse.j4 k y0 y1 y2) (letterboxref11_Parse.j4 (k + 1) y0 y1 y2)) ∧ (∀ y0 y1, LeO (letterboxref11_Parse.j5 k y0 y1) (letterboxref11_Parse.j5 (k + 1) y0 y1)) ∧ (∀ y0 y1 y2 y3, LeO (letterboxref11_Parse.j6 k y0 y1 y2 y3) (letterboxref11_Parse.j6 (k + 1) y0 y1 y2 y3))
 | 0 => ⟨fun _ _ r h => by simp [letterboxref11_Parse.j0] at h, fun _ r h => by simp [letterboxref11_Parse.j1] at h, fun _ _ r h => by simp [letterboxref11_Parse.j2] at h, fun _ _ r h => by simp [letterboxref11_Parse.j3] at h, fun _ _ _ r h => by simp [letterboxref11_Parse.j4] at h, fun _ _ r h => by simp [letterboxref11_Parse.j5] at h, fun _ _ _ _ r h => by simp [letterboxref11_Parse.j6] at h⟩
 | k + 1 => by
  obtain ⟨ih0, ih1, ih2, ih3, ih4, ih5, ih6⟩ := letterboxref11_Parse.mono_l k
  refine ⟨?_, ?_, ?_, ?_, ?_, ?_, ?_⟩
  ·intro y0 y1
   unfold letterboxref11_Parse.j0
   repeat' first
   | (with_reducible exact ih0 _ _)
   | (with_reducible exact ih1 _)
   | (with_reducible exact ih2 _ _)
   | (with_reducible exact ih3 _ _)
   | (with_reducible exact ih4 _ _ _)
   | (with_reducible exact ih5 _ _)
   | (with_reducible exact ih6 _ _ _ _)
   | (with_reducible exact letterboxref11_bare.mono _ _)
   | (with_reducible exact letterboxref11_clock.mono _ _ _ _)
   | (with_reducible exact letterboxref11_digits.mono _ _ _ _)
   | (with_reducible exact letterboxref11_month.mono _ _)
   | (with_reducible exact letterboxref11_number.mono _ _ _ _)
   | (with_reducible exact letterboxref11_parts.mono _ _)
   | (with_reducible exact letterboxref11_zone.mono _ _)
   | (with_reducible exact LeO.refl _)
   | (with_reducible exact LeO.none _)
   | (with_reducible refine LeO.ite ?_ ?_)
   | (with_reducible refine LeO.bind ?_ (fun _ => ?_))
   | exact ih0 _ _
   | exact ih1 _
   | exact ih2 _ _
   | exact ih3 _ _
   | exact ih4 _ _ _
   | exact ih5 _ _
   | exact ih6 _ _ _ _
   | exact letterboxref11_bare.mono _ _
   | exact letterboxref11_clock.mono _ _ _ _
   | exact letterboxref11_digits.mono _ _ _ _
   | exact letterboxref11_month.mono _ _
   | exact letterboxref11_number.mono _ _ _ _
   | exact letterboxref11_parts.mono _ _
   | exact letterboxref11_zone.mono _ _
   | exact LeO.none _
   | refine LeO.ite ?_ ?_
   | refine LeO.bind ?_ (fun _ => ?_)
  ·intro y0
   unfold letterboxref11_Parse.j1
   repeat' first
   | (with_reducible exact ih0 _ _)
   | (with_reducible exact ih1 _)
   | (with_reducible exact ih2 _ _)
   | (with_reducible exact ih3 _ _)
   | (with_reducible exact ih4 _ _ _)
   | (with_reducible exact ih5 _ _)
   | (with_reducible exact ih6 _ _ _ _)
   | (with_reducible exact letterboxref11_bare.mono _ _)
   | (with_reducible exact letterboxref11_clock.mono _ _ _ _)
   | (with_reducible exact letterboxref11_digits.mono _ _ _ _)
   | (with_reducible exact letterboxref11_month.mono _ _)
   | (with_reducible exact letterboxref11_number.mono _ _ _ _)
   | (with_reducible exact letterboxref11_parts.mono _ _)
   | (with_reducible exact letterboxref11_zone.mono _ _)
   | (with_reducible exact LeO.refl _)
   | (with_reducible exact LeO.none _)
   | (with_reducible refine LeO.ite ?_ ?_)
   | (with_reducible refine LeO.bind ?_ (fun _ => ?_))
   | exact ih0 _ _
   | exact ih1 _
   | exact ih2 _ _
   | exact ih3 _ _
   | exact ih4 _ _ _
   | exact ih5 _ _
   | exact ih6 _ _ _ _
   | exact letterboxref11_bare.mono _ _
   | exact letterboxref11_clock.mono _ _ _ _
   | exact letterboxref11_digits.mono _ _ _ _
   | exact letterboxref11_month.mono _ _
   | exact letterboxref11_number.mono _ _ _ _
   | exact letterboxref11_parts.mono _ _
   | exact letterboxref11_zone.mono _ _
   | exact LeO.none _
   | refine LeO.ite ?_ ?_
   | refine LeO.bind ?_ (fun _ => ?_)
  ·intro y0 y1
   unfold letterboxref11_Parse.j2
   repeat' first
   | (with_reducible exact ih0 _ _)
   | (with_reducible exact ih1 _)
   | (with_reducible exact ih2 _ _)
   | (with_reducible exact ih3 _ _)
   | (with_reducible exact ih4 _ _ _)
   | (with_reducible exact ih5 _ _)
   | (with_reducible exact ih6 _ _ _ _)
   | (with_reducible exact letterboxref11_bare.mono _ _)
   | (with_reducible exact letterboxref11_clock.mono _ _ _ _)
   | (with_reducible exact letterboxref11_digits.mono _ _ _ _)
   | (with_reducible exact letterboxref11_month.mono _ _)
   | (with_reducible exact letterboxref11_number.mono _ _ _ _)
   | (with_reducible exact letterboxref11_parts.mono _ _)
   | (with_reducible exact letterboxref11_zone.mono _ _)
   | (with_reducible exact LeO.refl _)
   | (with_reducible exact LeO.none _)
   | (with_reducible refine LeO.ite ?_ ?_)
   | (with_reducible refine LeO.bind ?_ (fun _ => ?_))
   | exact ih0 _ _
   | exact ih1 _
   | exact ih2 _ _
   | exact ih3 _ _
   | exact ih4 _ _ _
   | exact ih5 _ _
   | exact ih6 _ _ _ _
   | exact letterboxref11_bare.mono _ _
   | exact letterboxref11_clock.mono _ _ _ _
   | exact letterboxref11_digits.mono _ _ _ _
   | exact letterboxref11_month.mono _ _
   | exact letterboxref11_number.mono _ _ _ _
   | exact letterboxref11_parts.mono _ _
   | exact letterboxref11_zone.mono _ _
   | exact LeO.none _
   | refine LeO.ite ?_ ?_
   | refine LeO.bind ?_ (fun _ => ?_)
  ·intro y0 y1
   unfold letterboxref11_Parse.j3
   repeat' first
   | (with_reducible exact ih0 _ _)
   | (with_reducible exact ih1 _)
   | (with_reducible exact ih2 _ _)
   | (with_reducible exact ih3 _ _)
   | (with_reducible exact ih4 _ _ _)
   | (with_reducible exact ih5 _ _)
   | (with_reducible exact ih6 _ _ _ _)
   | (with_reducible exact letterboxref11_bare.mono _ _)
   | (with_reducible exact letterboxref11_clock.mono _ _ _ _)
   | (with_reducible exact letterboxref11_digits.mono _ _ _ _)
   | (with_reducible exact letterboxref11_month.mono _ _)
   | (with_reducible exact letterboxref11_number.mono _ _ _ _)
   | (with_reducible exact letterboxref11_parts.mono _ _)
   | (with_reducible exact letterboxref11_zone.mono _ _)
   | (with_reducible exact LeO.refl _)
   | (with_reducible exact LeO.none _)
   | (with_reducible refine LeO.ite ?_ ?_)
   | (with_reducible refine LeO.bind ?_ (fun _ => ?_))
   | exact ih0 _ _
   | exact ih1 _
   | exact ih2 _ _
   | exact ih3 _ _
   | exact ih4 _ _ _
   | exact ih5 _ _
   | exact ih6 _ _ _ _
   | exact letterboxref11_bare.mono _ _
   | exact letterboxref11_clock.mono _ _ _ _
   | exact letterboxref11_digits.mono _ _ _ _
   | exact letterboxref11_month.mono _ _
   | exact letterboxref11_number.mono _ _ _ _
   | exact letterboxref11_parts.mono _ _
   | exact letterboxref11_zone.mono _ _
   | exact LeO.none _
   | refine LeO.ite ?_ ?_
   | refine LeO.bind ?_ (fun _ => ?_)
  ·intro y0 y1 y2
   unfold letterboxref11_Parse.j4
   repeat' first
   | (with_reducible exact ih0 _ _)
   | (with_reducible exact ih1 _)
   | (with_reducible exact ih2 _ _)
   | (with_reducible exact ih3 _ _)
   | (with_reducible exact ih4 _ _ _)
   | (with_reducible exact ih5 _ _)
   | (with_reducible exact ih6 _ _ _ _)
   | (with_reducible exact letterboxref11_bare.mono _ _)
   | (with_reducible exact letterboxref11_clock.mono _ _ _ _)
   | (with_reducible exact letterboxref11_digits.mono _ _ _ _)
   | (with_reducible exact letterboxref11_month.mono _ _)
   | (with_reducible exact letterboxref11_number.mono _ _ _ _)
   | (with_reducible exact letterboxref11_parts.mono _ _)
   | (with_reducible exact letterboxref11_zone.mono _ _)
   | (with_reducible exact LeO.refl _)
   | (with_reducible exact LeO.none _)
   | (with_reducible refine LeO.ite ?_ ?_)
   | (with_reducible refine LeO.bind ?_ (fun _ => ?_))
   | exact ih0 _ _
   | exact ih1 _
   | exact ih2 _ _
   | exact ih3 _ _
   | exact ih4 _ _ _
   | exact ih5 _ _
   | exact ih6 _ _ _ _
   | exact letterboxref11_bare.mono _ _
   | exact letterboxref11_clock.mono _ _ _ _
   | exact letterboxref11_digits.mono _ _ _ _
   | exact letterboxref11_month.mono _ _
   | exact letterboxref11_number.mono _ _ _ _
   | exact letterboxref11_parts.mono _ _
   | exact letterboxref11_zone.mono _ _
   | exact LeO.none _
   | refine LeO.ite ?_ ?_
   | refine LeO.bind ?_ (fun _ => ?_)
  ·intro y0 y1
   unfold letterboxref11_Parse.j5
   repeat' first
   | (with_reducible exact ih0 _ _)
   | (with_reducible exact ih1 _)
   | (with_reducible exact ih2 _ _)
   | (with_reducible exact ih3 _ _)
   | (with_reducible exact ih4 _ _ _)
   | (with_reducible exact ih5 _ _)
   | (with_reducible exact ih6 _ _ _ _)
   | (with_reducible exact letterboxref11_bare.mono _ _)
   | (with_reducible exact letterboxref11_clock.mono _ _ _ _)
   | (with_reducible exact letterboxref11_digits.mono _ _ _ _)
   | (with_reducible exact letterboxref11_month.mono _ _)
   | (with_reducible exact letterboxref11_number.mono _ _ _ _)
   | (with_reducible exact letterboxref11_parts.mono _ _)
   | (with_reducible exact letterboxref11_zone.mono _ _)
   | (with_reducible exact LeO.refl _)
   | (with_reducible exact LeO.none _)
   | (with_reducible refine LeO.ite ?_ ?_)
   | (with_reducible refine LeO.bind ?_ (fun _ => ?_))
   | exact ih0 _ _
   | exact ih1 _
   | exact ih2 _ _
   | exact ih3 _ _
   | exact ih4 _ _ _
   | exact ih5 _ _
   | exact ih6 _ _ _ _
   | exact letterboxref11_bare.mono _ _
   | exact letterboxref11_clock.mono _ _ _ _
   | exact letterboxref11_digits.mono _ _ _ _
   | exact letterboxref11_month.mono _ _
   | exact letterboxref11_number.mono _ _ _ _
   | exact letterboxref11_parts.mono _ _
   | exact letterboxref11_zone.mono _ _
   | exact LeO.none _
   | refine LeO.ite ?_ ?_
   | refine LeO.bind ?_ (fun _ => ?_)
  ·intro y0 y1 y2 y3
   unfold letterboxref11_Parse.j6
   repeat' first
   | (with_reducible exact ih0 _ _)
   | (with_reducible exact ih1 _)
   | (with_reducible exact ih2 _ _)
   | (with_reducible exact ih3 _ _)
   | (with_reducible exact ih4 _ _ _)
   | (with_reducible exact ih5 _ _)
   | (with_reducible exact ih6 _ _ _ _)
   | (with_reducible exact letterboxref11_bare.mono _ _)
   | (with_reducible exact letterboxref11_clock.mono _ _ _ _)
   | (with_reducible exact letterboxref11_digits.mono _ _ _ _)
   | (with_reducible exact letterboxref11_month.mono _ _)
   | (with_reducible exact letterboxref11_number.mono _ _ _ _)
   | (with_reducible exact letterboxref11_parts.mono _ _)
   | (with_reducible exact letterboxref11_zone.mono _ _)
   | (with_reducible exact LeO.refl _)
   | (with_reducible exact LeO.none _)
   | (with_reducible refine LeO.ite ?_ ?_)
   | (with_reducible refine LeO.bind ?_ (fun _ => ?_))
   | exact ih0 _ _
   | exact ih1 _
   | exact ih2 _ _
   | exact ih3 _ _
   | exact ih4 _ _ _
   | exact ih5 _ _
   | exact ih6 _ _ _ _
   | exact letterboxref11_bare.mono _ _
   | exact letterboxref11_clock.mono _ _ _ _
   | exact letterboxref11_digits.mono _ _ _ _
   | exact letterboxref11_month.mono _ _
   | exact letterboxref11_number.mono _ _ _ _
   | exact letterboxref11_parts.mono _ _
   | exact letterboxref11_zone.mono _ _
   | exact LeO.none _
   | refine LeO.ite ?_ ?_
   | refine LeO.bind ?_ (fun _ => ?_)
theorem letterboxref11_Parse.mono : ∀ a0 k, LeO (letterboxref11_Parse.f k a0) (letterboxref11_Parse.f (k + 1) a0) := by
 intro a0 k
 obtain ⟨ih0, ih1, ih2, ih3, ih4, ih5, ih6⟩ := letterboxref11_Parse.mono_l k
 unfold letterboxref11_Parse.f
 repeat' first
   | (with_reducible exact ih0 _ _)
   | (with_reducible exact ih1 _)
   | (with_reducible exact ih2 _ _)
   | (with_reducible exact ih3 _ _)
   | (with_reducible exact ih4 _ _ _)
   | (with_reducible exact ih5 _ _)
   | (with_reducible exact ih6 _ _ _ _)
   | (with_reducible exact letterboxref11_bare.mono _ _)
   | (with_reducible exact letterboxref11_clock.mono _ _ _ _)
   | (with_reducible exact letterboxref11_digits.mono _ _ _ _)
   | (with_reducible exact letterboxref11_month.mono _ _)
   | (with_reducible exact letterboxref11_number.mono _ _ _ _)
   | (with_reducible exact letterboxref11_parts.mono _ _)
   | (with_reducible exact letterboxref11_zone.mono _ _)
   | (with_reducible exact LeO.refl _)
   | (with_reducible exact LeO.none _)
   | (with_reducible refine LeO.ite ?_ ?_)
   | (with_reducible refine LeO.bind ?_ (fun _ => ?_))
   | exact ih0 _ _
   | exact ih1 _
   | exact ih2 _ _
   | exact ih3 _ _
   | exact ih4 _ _ _
   | exact ih5 _ _
   | exact ih6 _ _ _ _
   | exact letterboxref11_bare.mono _ _
   | exact letterboxref11_clock.mono _ _ _ _
   | exact letterboxref11_digits.mono _ _ _ _
   | exact letterboxref11_month.mono _ _
   | exact letterboxref11_number.mono _ _ _ _
   | exact letterboxref11_parts.mono _ _
   | exact letterboxref11_zone.mono _ _
   | exact LeO.none _
   | refine LeO.ite ?_ ?_
   | refine LeO.bind ?_ (fun _ => ?_)
def letterboxref11_Parse.T18 : Bool × List (List Nat × List Nat) := (true, [([], []), ([], []), ([1], [1]), ([2], [2]), ([3], [3]), ([], []), ([5], [5]), ([6], [6]), ([7, 4], [7]), ([0, 4, 8, 8], [0, 4, 8]), ([9], [9]), ([10], [10]), ([10], [10]), ([11, 9, 0, 1, 2, 3, 4, 5, 6, 7, 8, 9, 10, 11], [11]), ([12, 13, 0, 1, 2, 3, 4, 5, 6, 7, 8, 9, 10, 11, 12, 13], [12])])
def letterboxref11_Parse.B18 : List Nat := [0, 0, 2, 6, 14, 0, 32, 96, 254, 511, 1023, 2047, 2047, 4095, 16383]
theorem letterboxref11_Parse.tab18 : rtab .any (opsOf Tryd.f9 18) = letterboxref11_Parse.T18 := by kernel_rfl
theorem letterboxref11_Parse.bits18 : waitsOk letterboxref11_Parse.T18.2 letterboxref11_Parse.B18 = true := by kernel_rfl
set_option maxHeartbeats 8000000 in
set_option maxRecDepth 100000 in
theorem letterboxref11_Parse.calls (k : Nat) (a0 : ByteArray) (r1 : Int) (r2 : Int) (r3 : Bool) (w : World) (h : letterboxref11_Parse.f k a0 = some (r1, r2, r3)) :
  Calls Tryd.prog 9 #[.string a0] w fun e w' => e = .returned (.tuple #[.agg #[.int .i64 r1, .int .i64 r2], .bool r3]) ∧ Below w.heap.size w w' := by
 have hu27 := Tryd.underlying27
 have hw8_ : ∀ x_ : Int, IntKind.u8.wrap x_ = x_ % 256 := IntKind.wrap_u8
 have HB := Aside0.mk (Below.refl w.heap.size w)
 have H : ((letterboxref11_bare.f k a0).bind fun t278 => ((letterboxref11_parts.f k t278).bind fun t279 => (if (t279.length : Int) > 0 then (if 0 < (t279.length : Int) then (if ((rdOf ByteArray.empty t279 0).size : Int) = 4 then (if 3 < ((rdOf ByteArray.empty t279 0).size : Int) then (letterboxref11_Parse.j0 k t279 ((bt (rdOf ByteArray.empty t279 0) 3) == 44)) else (none)) else (letterboxref11_Parse.j0 k t279 false)) else (none)) else (letterboxref11_Parse.j0 k t279 false)))) = some (r1, r2, r3) := h
 clear h
 replace H := Option.bind_eq_some_iff.mp H
 obtain ⟨t278, A20, H⟩ := H
 replace H : ((letterboxref11_parts.f k t278).bind fun t279 => (if (t279.length : Int) > 0 then (if 0 < (t279.length : Int) then (if ((rdOf ByteArray.empty t279 0).size : Int) = 4 then (if 3 < ((rdOf ByteArray.empty t279 0).size : Int) then (letterboxref11_Parse.j0 k t279 ((bt (rdOf ByteArray.empty t279 0) 3) == 44)) else (none)) else (letterboxref11_Parse.j0 k t279 false)) else (none)) else (letterboxref11_Parse.j0 k t279 false))) = some (r1, r2, r3) := H
 have A2 := Aside0.mk A20
 clear A20
 replace H := Option.bind_eq_some_iff.mp H
 obtain ⟨t279, A30, H⟩ := H
 replace H : (if (t279.length : Int) > 0 then (if 0 < (t279.length : Int) then (if ((rdOf ByteArray.empty t279 0).size : Int) = 4 then (if 3 < ((rdOf ByteArray.empty t279 0).size : Int) then (letterboxref11_Parse.j0 k t279 ((bt (rdOf ByteArray.empty t279 0) 3) == 44)) else (none)) else (letterboxref11_Parse.j0 k t279 false)) else (none)) else (letterboxref11_Parse.j0 k t279 false)) = some (r1, r2, r3) := H
 have A3 := Aside0.mk A30
 clear A30
 have HC4 := Aside0.mk H
 clear H
 go_enter Tryd.func9, Tryd.ntmps9
 go_upto_region 2 with (first | ((with_reducible refine gate_dst (N := 2) rfl ?_); (try (refine gate_guard (by rfl) ?_; dsimp only)); refine box_event ?hg (N := 2) ?hd (cs := #[.int .i64 0, .int .i64 0]) (t := 27) ?hr ?_; (case hd => rfl); (case hg => rfl); (case hr => first | (go_simp; done) | (go_simp; rfl)); intro gb277 hg w5 hbox hb; have n0_ := Aside0.mk (below_step (qb_ HB.out) hb); have n1_ := Aside0.mk (hbox); have n2_ := Aside0.mk ((by rw [hg]; exact (below_size (qb_ HB.out)) : w.heap.size ≤ gb277)); have n3_ := Aside0.mk ((by rw [hg]; exact (below_size (qb_ HB.out)) : w.heap.size ≤ gb277)); clear HB; have HB := n0_; have BK277 := n1_; have GW277 := n2_; have GE277 := n3_; clear n0_ n1_ n2_ n3_; clear hb hbox hg) | ((with_reducible refine gate_callee (f := 28) rfl ?_); refine goesL_ (some 12) rfl rfl Tryd.func28 (by kernel_rfl) rfl #[.string a0] rfl qa_ ?_; (with_reducible refine (letterboxref11_bare.calls k a0 t278 _ A2.out).mono ?_); rintro e w' ⟨rfl, ⟨nd, rfl⟩⟩; refine ⟨_, rfl, ?_⟩) | ((with_reducible refine gate_callee (f := 27) rfl ?_); refine goesL_ (some 13) rfl rfl Tryd.func27 (by kernel_rfl) rfl #[.string t278] rfl qa_ ?_; (with_reducible refine (letterboxref11_parts.calls k t278 t279 _ A3.out).mono ?_); rintro e w6 ⟨v280, rfl, ho0, hb⟩; refine ⟨_, rfl, ?_⟩; have n0_ := Aside0.mk (Kd.R_lower ho0 (below_size (qb_ HB.out))); have n1_ := Aside0.mk (blk_below (g := gb277) (o := .cells #[.int .i64 0, .int .i64 0] 27 (0, 0)) (qk_ BK277.out) hb); have n2_ := Aside0.mk (below_step (qb_ HB.out) hb); clear BK277; clear HB; have HO281 := n0_; have BK277 := n1_; have HB := n2_; clear n0_ n1_ n2_; (try clear hb); (try clear hb2); (try clear hk); (try clear hi); (try clear ho0)))
 (try simp only [Act.put, List.setIfInBounds_toArray, List.set_cons_zero, List.set_cons_succ])
 go_cut [30] (fun v30 wc => ∃ (kq : Nat) (x30_3 : Bool), v30 = .bool x30_3 ∧ Aside0 (letterboxref11_Parse.j0 kq t279 x30_3 = some (r1, r2, r3)) ∧ Aside0 (kq ≤ k) ∧ Aside0 (Kd.Q Kd.string 9 wc w.heap.size (fun _ => True) v280 t279) ∧ Aside0 (wc.heap[gb277]? = some (.cells #[.int .i64 0, .int .i64 0] 27 (0, 0))) ∧ Aside0 (Below w.heap.size w wc))
 case first =>
  have H := HC4.out
  clear HC4
  by_cases c7 : (t279.length : Int) > 0
  ·rw [if_pos c7] at H
   have c7b0 : decide (0 < (t279.length : Int)) = true := decide_eq_true c7
   have c7b1 : decide (0 < t279.length) = true := decide_eq_true (by omega)
   clear c7
   (first | rw [c7b0] | (simp only [i64_w, i32_w]; rw [c7b0]) | skip)
   by_cases c8 : 0 < (t279.length : Int)
   ·rw [if_pos c8] at H
    have c8b0 : decide (0 < (t279.length : Int)) = true := decide_eq_true c8
    have c8b1 : decide (0 < t279.length) = true := decide_eq_true (by omega)
    clear c8
    by_cases c9 : ((rdOf ByteArray.empty t279 0).size : Int) = 4
    ·rw [if_pos c9] at H
     have c9b0 : (((rdOf ByteArray.empty t279 0).size : Int) == 4) = true := beq_iff_eq.mpr c9
     have c9b1 : (((rdOf ByteArray.empty t279 0).size : Int) != 4) = false := bne_eq_false_iff_eq.mpr c9
     clear c9
     by_cases c10 : 3 < ((rdOf ByteArray.empty t279 0).size : Int)
     ·rw [if_pos c10] at H
      have c10b0 : decide (3 < ((rdOf ByteArray.empty t279 0).size : Int)) = true := decide_eq_true c10
      have c10b1 : decide (3 < (rdOf ByteArray.empty t279 0).size) = true := decide_eq_true (by omega)
      clear c10
      have H' := Aside0.mk H
      clear H
      obtain ⟨Ao12, co12, eo12⟩ := Kd.R_slice HO281.out
      subst eo12
      have p282 : 0 ≤ (0 : Int) := (by omega)
      have q282 : 0 < (t279.length : Int) := qd_
      obtain ⟨ad282, e282, hx282_0⟩ := Kd.at_string (Kd.R_reads' HO281.out).2.2 0 p282 q282
      cases e282
      have qi282 : (0 < t279.length) = True := eq_true (by omega)
      (try rw [show ((0 : Int)).toNat = 0 from rfl] at hx282_0)
      (try rw [Addr.add_zero'] at hx282_0)
      replace p282 := eq_true p282
      replace q282 := eq_true q282
      have p283 : 0 ≤ (0 : Int) := (by omega)
      have q283 : 0 < (t279.length : Int) := qd_
      obtain ⟨ad283, e283, hx283_0⟩ := Kd.at_string (Kd.R_reads' HO281.out).2.2 0 p283 q283
      obtain rfl : ad282 = ad283 := (by injection e283)
      have qi283 : (0 < t279.length) = True := eq_true (by omega)
      (try rw [show ((0 : Int)).toNat = 0 from rfl] at hx283_0)
      (try rw [Addr.add_zero'] at hx283_0)
      replace p283 := eq_true p283
      replace q283 := eq_true q283
      have p11 : 0 ≤ (3 : Int) := (by omega)
      have q11 : 3 < (rdOf ByteArray.empty t279 0).size := (by have : (3 : Int) < ((rdOf ByteArray.empty t279 0).size : Int) := qd_; omega)
      have hx11 : ∀ h : 3 < (rdOf ByteArray.empty t279 0).size, (((rdOf ByteArray.empty t279 0)[3]'h).toNat : Int) = bt (rdOf ByteArray.empty t279 0) 3 := bt_at (rdOf ByteArray.empty t279 0) 3
      clear p11
      have qi11 : (3 < ((rdOf ByteArray.empty t279 0).size : Int)) = True := eq_true (qd_)
      replace q11 := eq_true q11
      go_wp2
      go_meet
      case rel => exact ⟨_, (((bt (rdOf ByteArray.empty t279 0) 3) == 44)), qr_, H', ⟨by first | omega | exact Nat.le_refl _⟩, ⟨Kd.Q_of_R (ql_ HO281.out)⟩, ⟨qk_ BK277.out⟩, ⟨qb_ HB.out⟩⟩
     ·rw [if_neg c10] at H
      exact absurd H (by simp)
    ·rw [if_neg c9] at H
     have c9b0 : (((rdOf ByteArray.empty t279 0).size : Int) == 4) = false := beq_eq_false_iff_ne.mpr c9
     have c9b1 : (((rdOf ByteArray.empty t279 0).size : Int) != 4) = true := bne_iff_ne.mpr c9
     have H' := Aside0.mk H
     clear H
     obtain ⟨Ao13, co13, eo13⟩ := Kd.R_slice HO281.out
     subst eo13
     have p282 : 0 ≤ (0 : Int) := (by omega)
     have q282 : 0 < (t279.length : Int) := qd_
     obtain ⟨ad282, e282, hx282_0⟩ := Kd.at_string (Kd.R_reads' HO281.out).2.2 0 p282 q282
     cases e282
     have qi282 : (0 < t279.length) = True := eq_true (by omega)
     (try rw [show ((0 : Int)).toNat = 0 from rfl] at hx282_0)
     (try rw [Addr.add_zero'] at hx282_0)
     replace p282 := eq_true p282
     replace q282 := eq_true q282
     go_wp2
     go_meet
     case rel => exact ⟨_, (false), qr_, H', ⟨by first | omega | exact Nat.le_refl _⟩, ⟨Kd.Q_of_R (ql_ HO281.out)⟩, ⟨qk_ BK277.out⟩, ⟨qb_ HB.out⟩⟩
   ·rw [if_neg c8] at H
    exact absurd H (by simp)
  ·rw [if_neg c7] at H
   have c7b0 : decide (0 < (t279.length : Int)) = false := decide_eq_false c7
   have c7b1 : decide (0 < t279.length) = false := decide_eq_false (by omega)
   clear c7
   (first | rw [c7b0] | (simp only [i64_w, i32_w]; rw [c7b0]) | skip)
   have H' := Aside0.mk H
   clear H
   obtain ⟨Ao14, co14, eo14⟩ := Kd.R_slice HO281.out
   subst eo14
   go_wp2
   go_meet
   case rel => exact ⟨_, (false), qr_, H', ⟨by first | omega | exact Nat.le_refl _⟩, ⟨Kd.Q_of_R (ql_ HO281.out)⟩, ⟨qk_ BK277.out⟩, ⟨qb_ HB.out⟩⟩
 case rest =>
  clear HC4
  obtain ⟨kq, x30_3, rfl, HA, HJ3, HO_4, BK277, HB⟩ := hcut
  cases kq with
  | zero => exact absurd HA.out (by simp [letterboxref11_Parse.j0])
  | succ kj3 =>
   have H := HA.out
   clear HA
   simp only [letterboxref11_Parse.j0] at H
   have HC15 := Aside0.mk H
   clear H
   go_upto_if 30 with (fail)
   go_cut [4] (fun v4 wc => ∃ (kq : Nat) (x4_14 : List ByteArray), Aside0 (letterboxref11_Parse.j1 kq x4_14 = some (r1, r2, r3)) ∧ Aside0 (kq ≤ kj3) ∧ Aside0 (Kd.Q Kd.string 9 wc w.heap.size (fun _ => True) v4 x4_14) ∧ Aside0 (wc.heap[gb277]? = some (.cells #[.int .i64 0, .int .i64 0] 27 (0, 0))) ∧ Aside0 (Below w.heap.size w wc))
   case first =>
    have H := HC15.out
    clear HC15
    by_cases c16 : x30_3 = true
    ·subst c16
     have H1 : (if 1 ≤ (t279.length : Int) then (letterboxref11_Parse.j1 kj3 (t279.drop (1 : Int).toNat)) else (none)) = some (r1, r2, r3) := by rw [if_pos rfl] at H; exact H
     clear H
     have H := H1
     clear H1
     by_cases c17 : 1 ≤ (t279.length : Int)
     ·rw [if_pos c17] at H
      have c17b0 := eq_true c17
      have c17b1 : decide (1 ≤ (t279.length : Int)) = true := decide_eq_true c17
      clear c17
      obtain ⟨y284, hy284⟩ : ∃ y_ : List ByteArray, y_ = (t279.drop (1 : Int).toNat) := ⟨_, rfl⟩
      replace H : (letterboxref11_Parse.j1 kj3 y284) = some (r1, r2, r3) := by first | (rw [hy284]; with_reducible exact H) | (have H2_ := (Option.bind_some _ _).symm.trans H; rw [hy284]; with_reducible exact H2_) | (have H2_ := (Option.bind_some _ _).symm.trans H; with_reducible exact H2_) | with_reducible exact H | (rw [hy284]; exact H) | exact H
      have Ny284 := Aside0.mk hy284
      clear hy284
      have H' := Aside0.mk H
      clear H
      obtain ⟨Ao18, co18, eo18, _⟩ := Kd.Q_slice HO_4.out
      subst eo18
      have q19 : (1 : Int) ≤ ((t279.length : Int) : Int) := qd_
      obtain ⟨i019, hi019, _, hsz19, _⟩ := info_parts info9
      have hcut19 := cut_from (P := Tryd.prog) 43 9 .i64 Tryd.underlying43 hi019 1 hsz19 Ao18 t279.length co18 1 (by omega) q19
      have hr19 := Kd.Q_drop (k := (1 : Int).toNat) HO_4.out (by omega)
      obtain ⟨A19, hA19⟩ : ∃ A1, A1 = (if co18 = (1 : Int).toNat then Ao18 else (Ao18 : Option Addr).map (·.add ((1 : Int).toNat * 1))) := ⟨_, rfl⟩
      obtain ⟨c19, hc19⟩ : ∃ c1, c1 = co18 - (1 : Int).toNat := ⟨_, rfl⟩
      have hy19 : y284.length = t279.length - (1 : Int).toNat := (by rw [Ny284.out, List.length_drop])
      rw [← Ny284.out] at hr19
      rw [← hy19, ← hA19, ← hc19] at hcut19
      replace hr19 : Kd.Q Kd.string 9 wc w.heap.size (fun _ => True) (.slice A19 y284.length c19) y284 := (by rw [hA19, hc19, hy19]; exact hr19)
      have HE19 : Aside0 ((Value.slice A19 y284.length c19).ownBlock = (.slice Ao18 t279.length co18 : Value).ownBlock) := ⟨by rw [hA19]; split <;> (cases (Ao18 : Option Addr) <;> rfl)⟩
      clear hy19 hi019 hsz19 HO_4 hA19 hc19
      have HO286 := Aside0.mk hr19
      clear hr19
      replace q19 := eq_true q19
      go_wp2
      go_meet
      case rel => exact ⟨_, (y284), H', ⟨by have := HJ3.out; first | omega | exact Nat.le_refl _⟩, ⟨by (with_reducible repeat (first | apply Kd.Q_alloc | apply Kd.Q_drewN | apply Kd.Q_drew)); exact HO286.out⟩, ⟨qk_ BK277.out⟩, ⟨qb_ HB.out⟩⟩
     ·rw [if_neg c17] at H
      exact absurd H (by simp)
    ·replace c16 := Bool.eq_false_iff.mpr c16
     subst c16
     have H1 : (letterboxref11_Parse.j1 kj3 t279) = some (r1, r2, r3) := by rw [if_neg (show ¬ (false = true) by decide)] at H; exact H
     clear H
     have H := H1
     clear H1
     have H' := Aside0.mk H
     clear H
     go_wp2
     go_meet
     case rel => exact ⟨_, (t279), H', ⟨by have := HJ3.out; first | omega | exact Nat.le_refl _⟩, ⟨by (with_reducible repeat (first | apply Kd.Q_alloc | apply Kd.Q_drewN | apply Kd.Q_drew)); exact HO_4.out⟩, ⟨qk_ BK277.out⟩, ⟨qb_ HB.out⟩⟩
   case rest =>
    clear HC15
    obtain ⟨kq, x4_14, HA, HJ14, HO_4, BK277, HB⟩ := hcut
    cases kq with
    | zero => exact absurd HA.out (by simp [letterboxref11_Parse.j1])
    | succ kj14 =>
     have H := HA.out
     clear HA
     simp only [letterboxref11_Parse.j1] at H
     have HC20 := Aside0.mk H
     clear H
     go_upto_region 4 with (fail)
     go_cut [40] (fun v40 wc => ∃ (kq : Nat) (x40_19 : Bool), v40 = .bool x40_19 ∧ Aside0 (letterboxref11_Parse.j2 kq x4_14 x40_19 = some (r1, r2, r3)) ∧ Aside0 (kq ≤ kj14) ∧ Aside0 (Kd.Q Kd.string 9 wc w.heap.size (fun _ => True) u4 x4_14) ∧ Aside0 (wc.heap[gb277]? = some (.cells #[.int .i64 0, .int .i64 0] 27 (0, 0))) ∧ Aside0 (Below w.heap.size w wc))
     case first =>
      have H := HC20.out
      clear HC20
      by_cases c21 : (x4_14.length : Int) < 4
      ·rw [if_pos c21] at H
       have c21b0 : decide ((x4_14.length : Int) < 4) = true := decide_eq_true c21
       have c21b1 : decide (x4_14.length < 4) = true := decide_eq_true (by omega)
       clear c21
       (first | rw [c21b0] | (simp only [i64_w, i32_w]; rw [c21b0]) | skip)
       have H' := Aside0.mk H
       clear H
       obtain ⟨Ao22, co22, eo22, _⟩ := Kd.Q_slice HO_4.out
       subst eo22
       go_wp2
       go_meet
       case rel => exact ⟨_, (true), qr_, H', ⟨by have := HJ3.out; have := HJ14.out; first | omega | exact Nat.le_refl _⟩, ⟨by (with_reducible repeat (first | apply Kd.Q_alloc | apply Kd.Q_drewN | apply Kd.Q_drew)); exact HO_4.out⟩, ⟨qk_ BK277.out⟩, ⟨qb_ HB.out⟩⟩
      ·rw [if_neg c21] at H
       have c21b0 : decide ((x4_14.length : Int) < 4) = false := decide_eq_false c21
       have c21b1 : decide (x4_14.length < 4) = false := decide_eq_false (by omega)
       clear c21
       (first | rw [c21b0] | (simp only [i64_w, i32_w]; rw [c21b0]) | skip)
       have H' := Aside0.mk H
       clear H
       obtain ⟨Ao23, co23, eo23, _⟩ := Kd.Q_slice HO_4.out
       subst eo23
       go_wp2
       go_meet
       case rel => exact ⟨_, (decide ((x4_14.length : Int) > 5)), qr_, H', ⟨by have := HJ3.out; have := HJ14.out; first | omega | exact Nat.le_refl _⟩, ⟨by (with_reducible repeat (first | apply Kd.Q_alloc | apply Kd.Q_drewN | apply Kd.Q_drew)); exact HO_4.out⟩, ⟨qk_ BK277.out⟩, ⟨qb_ HB.out⟩⟩
     case rest =>
      clear HC20
      obtain ⟨kq, x40_19, rfl, HA, HJ19, HO_4, BK277, HB⟩ := hcut
      cases kq with
      | zero => exact absurd HA.out (by simp [letterboxref11_Parse.j2])
      | succ kj19 =>
       have H := HA.out
       clear HA
       simp only [letterboxref11_Parse.j2] at H
       by_cases c24 : x40_19 = true
       ·subst c24
        have H1 : (some (0, 0, false)) = some (r1, r2, r3) := by rw [if_pos rfl] at H; exact H
        clear H
        have H := H1
        clear H1
        simp only [Option.some.injEq, Prod.mk.injEq] at H
        obtain ⟨rfl, rfl, rfl⟩ := H
        obtain ⟨hcz25_0, hcz25_1, hfz25_0, hfz25_1⟩ := cz2_ BK277.out
        go_wp2
        refine bodyPost_ret (results_ct rfl _ _ gb277 27 #[.int .i64 0, .int .i64 0] (0, 0) _ rfl (qs2_ (qk_ BK277.out)) Tryd.underlying27 rfl (by kernel_rfl)) rfl ?_
        exact ⟨qw_, qb_ HB.out⟩
       ·replace c24 := Bool.eq_false_iff.mpr c24
        subst c24
        have H1 : (if 2 < (x4_14.length : Int) then ((letterboxref11_digits.f kj19 (rdOf ByteArray.empty x4_14 2) 2 4).bind fun t288 => (if ((rdOf ByteArray.empty x4_14 2).size : Int) = 3 then (letterboxref11_Parse.j3 kj19 x4_14 (-1)) else (letterboxref11_Parse.j3 kj19 x4_14 t288))) else (none)) = some (r1, r2, r3) := by rw [if_neg (show ¬ (false = true) by decide)] at H; exact H
        clear H
        have H := H1
        clear H1
        by_cases c26 : 2 < (x4_14.length : Int)
        ·rw [if_pos c26] at H
         have c26b0 : decide (2 < (x4_14.length : Int)) = true := decide_eq_true c26
         have c26b1 : decide (2 < x4_14.length) = true := decide_eq_true (by omega)
         clear c26
         replace H := Option.bind_eq_some_iff.mp H
         obtain ⟨t288, A270, H⟩ := H
         replace H : (if ((rdOf ByteArray.empty x4_14 2).size : Int) = 3 then (letterboxref11_Parse.j3 kj19 x4_14 (-1)) else (letterboxref11_Parse.j3 kj19 x4_14 t288)) = some (r1, r2, r3) := H
         have A27 := Aside0.mk A270
         clear A270
         have HC28 := Aside0.mk H
         clear H
         obtain ⟨Ao29, co29, eo29, _⟩ := Kd.Q_slice HO_4.out
         subst eo29
         have p287 : 0 ≤ (2 : Int) := (by omega)
         have q287 : 2 < (x4_14.length : Int) := qd_
         obtain ⟨ad287, e287, hx287_0⟩ := Kd.at_string (Kd.Q_reads' HO_4.out).2.2 2 p287 q287
         cases e287
         (try simp only [show (2 : Int).toNat = 2 from rfl, Nat.reduceMul, Nat.reduceEqDiff, Go.Addr.add, ↓reduceIte] at hx287_0)
         have qi287 : (2 < x4_14.length) = True := eq_true (by omega)
         (try rw [show ((2 : Int)).toNat = 2 from rfl] at hx287_0)
         replace p287 := eq_true p287
         replace q287 := eq_true q287
         go_upto_if 50 with (first | ((with_reducible refine gate_callee (f := 29) rfl ?_); refine goesL_ (some 45) rfl rfl Tryd.func29 (by kernel_rfl) rfl #[.string (rdOf ByteArray.empty x4_14 2), .int .i64 2, .int .i64 4] rfl qa_ ?_; (with_reducible refine (letterboxref11_digits.calls kj19 (rdOf ByteArray.empty x4_14 2) 2 4 t288 _ A27.out).mono ?_); rintro e w' ⟨rfl, ⟨nd, rfl⟩⟩; refine ⟨_, rfl, ?_⟩; have p289 : 0 ≤ (2 : Int) := (by omega); have q289 : 2 < (x4_14.length : Int) := qd_; obtain ⟨ad289, e289, hx289_0⟩ := Kd.at_string (Kd.Q_reads' HO_4.out).2.2 2 p289 q289; obtain rfl : ad287 = ad289 := (by injection e289); (try simp only [show (2 : Int).toNat = 2 from rfl, Nat.reduceMul, Nat.reduceEqDiff, Go.Addr.add, ↓reduceIte] at hx289_0); have qi289 : (2 < x4_14.length) = True := eq_true (by omega); (try rw [show ((2 : Int)).toNat = 2 from rfl] at hx289_0); replace p289 := eq_true p289; replace q289 := eq_true q289))
         (try simp only [Act.put, List.setIfInBounds_toArray, List.set_cons_zero, List.set_cons_succ])
         go_cut [5] (fun v5 wc => ∃ (kq : Nat) (x5_27 : Int), v5 = .int .i64 x5_27 ∧ Aside0 (letterboxref11_Parse.j3 kq x4_14 x5_27 = some (r1, r2, r3)) ∧ Aside0 (kq ≤ kj19) ∧ Aside0 (Kd.Q Kd.string 9 wc w.heap.size (fun _ => True) (.slice (some ad287) x4_14.length co29) x4_14) ∧ Aside0 (wc.heap[gb277]? = some (.cells #[.int .i64 0, .int .i64 0] 27 (0, 0))) ∧ Aside0 (Below w.heap.size w wc))
         case first =>
          have H := HC28.out
          clear HC28
          by_cases c30 : ((rdOf ByteArray.empty x4_14 2).size : Int) = 3
          ·rw [if_pos c30] at H
           have c30b0 : (((rdOf ByteArray.empty x4_14 2).size : Int) == 3) = true := beq_iff_eq.mpr c30
           have c30b1 : (((rdOf ByteArray.empty x4_14 2).size : Int) != 3) = false := bne_eq_false_iff_eq.mpr c30
           clear c30
           (first | rw [c30b0] | (simp only [i64_w, i32_w]; rw [c30b0]) | skip)
           have H' := Aside0.mk H
           clear H
           go_wp2
           go_meet
           case rel => exact ⟨_, ((-1)), qr_, H', ⟨by have := HJ3.out; have := HJ14.out; have := HJ19.out; first | omega | exact Nat.le_refl _⟩, ⟨by (with_reducible repeat (first | apply Kd.Q_alloc | apply Kd.Q_drewN | apply Kd.Q_drew)); exact HO_4.out⟩, ⟨qk_ BK277.out⟩, ⟨qb_ HB.out⟩⟩
          ·rw [if_neg c30] at H
           have c30b0 : (((rdOf ByteArray.empty x4_14 2).size : Int) == 3) = false := beq_eq_false_iff_ne.mpr c30
           have c30b1 : (((rdOf ByteArray.empty x4_14 2).size : Int) != 3) = true := bne_iff_ne.mpr c30
           (first | rw [c30b0] | (simp only [i64_w, i32_w]; rw [c30b0]) | skip)
           have H' := Aside0.mk H
           clear H
           go_wp2
           go_meet
           case rel => exact ⟨_, (t288), qr_, H', ⟨by have := HJ3.out; have := HJ14.out; have := HJ19.out; first | omega | exact Nat.le_refl _⟩, ⟨by (with_reducible repeat (first | apply Kd.Q_alloc | apply Kd.Q_drewN | apply Kd.Q_drew)); exact HO_4.out⟩, ⟨qk_ BK277.out⟩, ⟨qb_ HB.out⟩⟩
         case rest =>
          clear HC28
          (try clear c24)
          obtain ⟨kq, x5_27, rfl, HA, HJ27, HO_4, BK277, HB⟩ := hcut
          cases kq with
          | zero => exact absurd HA.out (by simp [letterboxref11_Parse.j3])
          | succ kj27 =>
           have H := HA.out
           clear HA
           simp only [letterboxref11_Parse.j3] at H
           have HC31 := Aside0.mk H
           clear H
           go_upto_region 9 with (fail)
           go_cut [59] (fun v59 wc => ∃ (kq : Nat) (x59_30 : Bool), v59 = .bool x59_30 ∧ Aside0 (letterboxref11_Parse.j4 kq x4_14 x5_27 x59_30 = some (r1, r2, r3)) ∧ Aside0 (kq ≤ kj27) ∧ Aside0 (Kd.Q Kd.string 9 wc w.heap.size (fun _ => True) (.slice (some ad287) x4_14.length co29) x4_14) ∧ Aside0 (wc.heap[gb277]? = some (.cells #[.int .i64 0, .int .i64 0] 27 (0, 0))) ∧ Aside0 (Below w.heap.size w wc))
           case first =>
            have H := HC31.out
            clear HC31
            by_cases c32 : 2 < (x4_14.length : Int)
            ·rw [if_pos c32] at H
             have c32b0 : decide (2 < (x4_14.length : Int)) = true := decide_eq_true c32
             have c32b1 : decide (2 < x4_14.length) = true := decide_eq_true (by omega)
             clear c32
             (first | rw [c32b0] | (simp only [i64_w, i32_w]; rw [c32b0]) | skip)
             by_cases c33 : ((rdOf ByteArray.empty x4_14 2).size : Int) = 2
             ·rw [if_pos c33] at H
              have c33b0 : (((rdOf ByteArray.empty x4_14 2).size : Int) == 2) = true := beq_iff_eq.mpr c33
              have c33b1 : (((rdOf ByteArray.empty x4_14 2).size : Int) != 2) = false := bne_eq_false_iff_eq.mpr c33
              clear c33
              have H' := Aside0.mk H
              clear H
              have p290 : 0 ≤ (2 : Int) := (by omega)
              have q290 : 2 < (x4_14.length : Int) := qd_
              obtain ⟨ad290, e290, hx290_0⟩ := Kd.at_string (Kd.Q_reads' HO_4.out).2.2 2 p290 q290
              obtain rfl : ad287 = ad290 := (by injection e290)
              (try simp only [show (2 : Int).toNat = 2 from rfl, Nat.reduceMul, Nat.reduceEqDiff, Go.Addr.add, ↓reduceIte] at hx290_0)
              have qi290 : (2 < x4_14.length) = True := eq_true (by omega)
              (try rw [show ((2 : Int)).toNat = 2 from rfl] at hx290_0)
              replace p290 := eq_true p290
              replace q290 := eq_true q290
              go_wp2
              go_meet
              case rel => exact ⟨_, (decide (x5_27 ≥ 0)), qr_, H', ⟨by have := HJ3.out; have := HJ14.out; have := HJ19.out; have := HJ27.out; first | omega | exact Nat.le_refl _⟩, ⟨by (with_reducible repeat (first | apply Kd.Q_alloc | apply Kd.Q_drewN | apply Kd.Q_drew)); exact HO_4.out⟩, ⟨qk_ BK277.out⟩, ⟨qb_ HB.out⟩⟩
             ·rw [if_neg c33] at H
              have c33b0 : (((rdOf ByteArray.empty x4_14 2).size : Int) == 2) = false := beq_eq_false_iff_ne.mpr c33
              have c33b1 : (((rdOf ByteArray.empty x4_14 2).size : Int) != 2) = true := bne_iff_ne.mpr c33
              have H' := Aside0.mk H
              clear H
              have p290 : 0 ≤ (2 : Int) := (by omega)
              have q290 : 2 < (x4_14.length : Int) := qd_
              obtain ⟨ad290, e290, hx290_0⟩ := Kd.at_string (Kd.Q_reads' HO_4.out).2.2 2 p290 q290
              obtain rfl : ad287 = ad290 := (by injection e290)
              (try simp only [show (2 : Int).toNat = 2 from rfl, Nat.reduceMul, Nat.reduceEqDiff, Go.Addr.add, ↓reduceIte] at hx290_0)
              have qi290 : (2 < x4_14.length) = True := eq_true (by omega)
              (try rw [show ((2 : Int)).toNat = 2 from rfl] at hx290_0)
              replace p290 := eq_true p290
              replace q290 := eq_true q290
              go_wp2
              go_meet
              case rel => exact ⟨_, (false), qr_, H', ⟨by have := HJ3.out; have := HJ14.out; have := HJ19.out; have := HJ27.out; first | omega | exact Nat.le_refl _⟩, ⟨by (with_reducible repeat (first | apply Kd.Q_alloc | apply Kd.Q_drewN | apply Kd.Q_drew)); exact HO_4.out⟩, ⟨qk_ BK277.out⟩, ⟨qb_ HB.out⟩⟩
            ·rw [if_neg c32] at H
             exact absurd H (by simp)
           case rest =>
            clear HC31
            obtain ⟨kq, x59_30, rfl, HA, HJ30, HO_4, BK277, HB⟩ := hcut
            cases kq with
            | zero => exact absurd HA.out (by simp [letterboxref11_Parse.j4])
            | succ kj30 =>
             have H := HA.out
             clear HA
             simp only [letterboxref11_Parse.j4] at H
             have HC34 := Aside0.mk H
             clear H
             go_upto_if 59 with (fail)
             go_cut [5] (fun v5 wc => ∃ (kq : Nat) (x5_33 : Int), v5 = .int .i64 x5_33 ∧ Aside0 (letterboxref11_Parse.j5 kq x4_14 x5_33 = some (r1, r2, r3)) ∧ Aside0 (kq ≤ kj30) ∧ Aside0 (Kd.Q Kd.string 9 wc w.heap.size (fun _ => True) (.slice (some ad287) x4_14.length co29) x4_14) ∧ Aside0 (wc.heap[gb277]? = some (.cells #[.int .i64 0, .int .i64 0] 27 (0, 0))) ∧ Aside0 (Below w.heap.size w wc))
             case first =>
              have H := HC34.out
              clear HC34
              by_cases c35 : x59_30 = true
              ·subst c35
               have H1 : (if (wrap64 (x5_27 + 1900)) < 1950 then (letterboxref11_Parse.j5 kj30 x4_14 (wrap64 ((wrap64 (x5_27 + 1900)) + 100))) else (letterboxref11_Parse.j5 kj30 x4_14 (wrap64 (x5_27 + 1900)))) = some (r1, r2, r3) := by rw [if_pos rfl] at H; exact H
               clear H
               have H := H1
               clear H1
               by_cases c36 : (wrap64 (x5_27 + 1900)) < 1950
               ·rw [if_pos c36] at H
                have c36b0 : decide ((wrap64 (x5_27 + 1900)) < 1950) = true := decide_eq_true c36
                clear c36
                (first | rw [c36b0] | (simp only [i64_w, i32_w]; rw [c36b0]) | skip)
                have H' := Aside0.mk H
                clear H
                go_wp2
                go_meet
                case rel => exact ⟨_, (wrap64 ((wrap64 (x5_27 + 1900)) + 100)), qr_, H', ⟨by have := HJ3.out; have := HJ14.out; have := HJ19.out; have := HJ27.out; have := HJ30.out; first | omega | exact Nat.le_refl _⟩, ⟨by (with_reducible repeat (first | apply Kd.Q_alloc | apply Kd.Q_drewN | apply Kd.Q_drew)); exact HO_4.out⟩, ⟨qk_ BK277.out⟩, ⟨qb_ HB.out⟩⟩
               ·rw [if_neg c36] at H
                have c36b0 : decide ((wrap64 (x5_27 + 1900)) < 1950) = false := decide_eq_false c36
                clear c36
                (first | rw [c36b0] | (simp only [i64_w, i32_w]; rw [c36b0]) | skip)
                have H' := Aside0.mk H
                clear H
                go_wp2
                go_meet
                case rel => exact ⟨_, (wrap64 (x5_27 + 1900)), qr_, H', ⟨by have := HJ3.out; have := HJ14.out; have := HJ19.out; have := HJ27.out; have := HJ30.out; first | omega | exact Nat.le_refl _⟩, ⟨by (with_reducible repeat (first | apply Kd.Q_alloc | apply Kd.Q_drewN | apply Kd.Q_drew)); exact HO_4.out⟩, ⟨qk_ BK277.out⟩, ⟨qb_ HB.out⟩⟩
              ·replace c35 := Bool.eq_false_iff.mpr c35
               subst c35
               have H1 : (letterboxref11_Parse.j5 kj30 x4_14 x5_27) = some (r1, r2, r3) := by rw [if_neg (show ¬ (false = true) by decide)] at H; exact H
               clear H
               have H := H1
               clear H1
               have H' := Aside0.mk H
               clear H
               go_wp2
               go_meet
               case rel => exact ⟨_, (x5_27), qr_, H', ⟨by have := HJ3.out; have := HJ14.out; have := HJ19.out; have := HJ27.out; have := HJ30.out; first | omega | exact Nat.le_refl _⟩, ⟨by (with_reducible repeat (first | apply Kd.Q_alloc | apply Kd.Q_drewN | apply Kd.Q_drew)); exact HO_4.out⟩, ⟨qk_ BK277.out⟩, ⟨qb_ HB.out⟩⟩
             case rest =>
              clear HC34
              obtain ⟨kq, x5_33, rfl, HA, HJ33, HO_4, BK277, HB⟩ := hcut
              cases kq with
              | zero => exact absurd HA.out (by simp [letterboxref11_Parse.j5])
              | succ kj33 =>
               have H := HA.out
               clear HA
               simp only [letterboxref11_Parse.j5] at H
               have HC37 := Aside0.mk H
               clear H
               go_upto_if 68 with (fail)
               go_cut [6, 7] (fun v6 v7 wc => ∃ (kq : Nat) (x6_36 : Int) (x7_36 : Bool), v6 = .int .i64 x6_36 ∧ v7 = .bool x7_36 ∧ Aside0 (letterboxref11_Parse.j6 kq x4_14 x5_33 x6_36 x7_36 = some (r1, r2, r3)) ∧ Aside0 (kq ≤ kj33) ∧ Aside0 (Kd.Q Kd.string 9 wc w.heap.size (fun _ => True) (.slice (some ad287) x4_14.length co29) x4_14) ∧ Aside0 (wc.heap[gb277]? = some (.cells #[.int .i64 0, .int .i64 0] 27 (0, 0))) ∧ Aside0 (Below w.heap.size w wc))
               case first =>
                have H := HC37.out
                clear HC37
                by_cases c38 : (x4_14.length : Int) = 5
                ·rw [if_pos c38] at H
                 have c38b0 : ((x4_14.length : Int) == 5) = true := beq_iff_eq.mpr c38
                 have c38b1 : ((x4_14.length : Int) != 5) = false := bne_eq_false_iff_eq.mpr c38
                 clear c38
                 (first | rw [c38b0] | (simp only [i64_w, i32_w]; rw [c38b0]) | skip)
                 by_cases c39 : 4 < (x4_14.length : Int)
                 ·rw [if_pos c39] at H
                  have c39b0 : decide (4 < (x4_14.length : Int)) = true := decide_eq_true c39
                  have c39b1 : decide (4 < x4_14.length) = true := decide_eq_true (by omega)
                  clear c39
                  replace H := Option.bind_eq_some_iff.mp H
                  obtain ⟨⟨t292, t293⟩, A400, H⟩ := H
                  replace H : (letterboxref11_Parse.j6 kj33 x4_14 x5_33 t292 t293) = some (r1, r2, r3) := H
                  have A40 := Aside0.mk A400
                  clear A400
                  have H' := Aside0.mk H
                  clear H
                  have p291 : 0 ≤ (4 : Int) := (by omega)
                  have q291 : 4 < (x4_14.length : Int) := qd_
                  obtain ⟨ad291, e291, hx291_0⟩ := Kd.at_string (Kd.Q_reads' HO_4.out).2.2 4 p291 q291
                  obtain rfl : ad287 = ad291 := (by injection e291)
                  (try simp only [show (4 : Int).toNat = 4 from rfl, Nat.reduceMul, Nat.reduceEqDiff, Go.Addr.add, ↓reduceIte] at hx291_0)
                  have qi291 : (4 < x4_14.length) = True := eq_true (by omega)
                  (try rw [show ((4 : Int)).toNat = 4 from rfl] at hx291_0)
                  replace p291 := eq_true p291
                  replace q291 := eq_true q291
                  go_wp2_with (first | ((with_reducible refine gate_callee (f := 30) rfl ?_); refine goesL_ (some 73) rfl rfl Tryd.func30 (by kernel_rfl) rfl #[.string (rdOf ByteArray.empty x4_14 4)] rfl qa_ ?_; (with_reducible refine (letterboxref11_zone.calls kj33 (rdOf ByteArray.empty x4_14 4) t292 t293 _ A40.out).mono ?_); rintro e w41 ⟨rfl, hb⟩; refine ⟨_, rfl, ?_⟩; have n0_ := Aside0.mk (Kd.Q_below (by (with_reducible repeat (first | apply Kd.Q_alloc | apply Kd.Q_drewN | apply Kd.Q_drew)); exact HO_4.out) hb); have n1_ := Aside0.mk (blk_below (g := gb277) (o := .cells #[.int .i64 0, .int .i64 0] 27 (0, 0)) (qk_ BK277.out) hb); have n2_ := Aside0.mk (below_step (qb_ HB.out) hb); clear HO_4; clear BK277; clear HB; have HO_4 := n0_; have BK277 := n1_; have HB := n2_; clear n0_ n1_ n2_; (try clear hb); (try clear hb2); (try clear hk); (try clear hi)))
                  go_meet
                  case rel => exact ⟨_, (t292), (t293), qr_, qr_, H', ⟨by have := HJ3.out; have := HJ14.out; have := HJ19.out; have := HJ27.out; have := HJ30.out; have := HJ33.out; first | omega | exact Nat.le_refl _⟩, ⟨by (with_reducible repeat (first | apply Kd.Q_alloc | apply Kd.Q_drewN | apply Kd.Q_drew)); exact HO_4.out⟩, ⟨qk_ BK277.out⟩, ⟨qb_ HB.out⟩⟩
                 ·rw [if_neg c39] at H
                  exact absurd H (by simp)
                ·rw [if_neg c38] at H
                 have c38b0 : ((x4_14.length : Int) == 5) = false := beq_eq_false_iff_ne.mpr c38
                 have c38b1 : ((x4_14.length : Int) != 5) = true := bne_iff_ne.mpr c38
                 (first | rw [c38b0] | (simp only [i64_w, i32_w]; rw [c38b0]) | skip)
                 have H' := Aside0.mk H
                 clear H
                 go_wp2
                 go_meet
                 case rel => exact ⟨_, (0), (true), qr_, qr_, H', ⟨by have := HJ3.out; have := HJ14.out; have := HJ19.out; have := HJ27.out; have := HJ30.out; have := HJ33.out; first | omega | exact Nat.le_refl _⟩, ⟨by (with_reducible repeat (first | apply Kd.Q_alloc | apply Kd.Q_drewN | apply Kd.Q_drew)); exact HO_4.out⟩, ⟨qk_ BK277.out⟩, ⟨qb_ HB.out⟩⟩
               case rest =>
                clear HC37
                obtain ⟨kq, x6_36, x7_36, rfl, rfl, HA, HJ36, HO_4, BK277, HB⟩ := hcut
                cases kq with
                | zero => exact absurd HA.out (by simp [letterboxref11_Parse.j6])
                | succ kj36 =>
                 have H := HA.out
                 clear HA
                 simp only [letterboxref11_Parse.j6] at H
                 by_cases c42 : 3 < (x4_14.length : Int)
                 ·rw [if_pos c42] at H
                  have c42b0 : decide (3 < (x4_14.length : Int)) = true := decide_eq_true c42
                  have c42b1 : decide (3 < x4_14.length) = true := decide_eq_true (by omega)
                  clear c42
                  replace H := Option.bind_eq_some_iff.mp H
                  obtain ⟨t295, A430, H⟩ := H
                  replace H : (if 1 < (x4_14.length : Int) then ((letterboxref11_month.f kj36 (rdOf ByteArray.empty x4_14 1)).bind fun t297 => (if 0 < (x4_14.length : Int) then ((letterboxref11_digits.f kj36 (rdOf ByteArray.empty x4_14 0) 1 2).bind fun t299 => ((letterboxref11_number.f kj36 x5_33 t297 t299).bind fun bt300 => (if x7_36 = true then (if t295 < 0 then (some (0, 0, false)) else (if bt300.2 = true then (some (wrap64 ((wrap64 ((wrap64 (86400 * bt300.1)) + t295)) - (wrap64 (60 * x6_36))), x6_36, true)) else (some (0, 0, false)))) else (some (0, 0, false))))) else (none))) else (none)) = some (r1, r2, r3) := H
                  have A43 := Aside0.mk A430
                  clear A430
                  by_cases c44 : 1 < (x4_14.length : Int)
                  ·rw [if_pos c44] at H
                   have c44b0 : decide (1 < (x4_14.length : Int)) = true := decide_eq_true c44
                   have c44b1 : decide (1 < x4_14.length) = true := decide_eq_true (by omega)
                   clear c44
                   replace H := Option.bind_eq_some_iff.mp H
                   obtain ⟨t297, A450, H⟩ := H
                   replace H : (if 0 < (x4_14.length : Int) then ((letterboxref11_digits.f kj36 (rdOf ByteArray.empty x4_14 0) 1 2).bind fun t299 => ((letterboxref11_number.f kj36 x5_33 t297 t299).bind fun bt300 => (if x7_36 = true then (if t295 < 0 then (some (0, 0, false)) else (if bt300.2 = true then (some (wrap64 ((wrap64 ((wrap64 (86400 * bt300.1)) + t295)) - (wrap64 (60 * x6_36))), x6_36, true)) else (some (0, 0, false)))) else (some (0, 0, false))))) else (none)) = some (r1, r2, r3) := H
                   have A45 := Aside0.mk A450
                   clear A450
                   by_cases c46 : 0 < (x4_14.length : Int)
                   ·rw [if_pos c46] at H
                    have c46b0 : decide (0 < (x4_14.length : Int)) = true := decide_eq_true c46
                    have c46b1 : decide (0 < x4_14.length) = true := decide_eq_true (by omega)
                    clear c46
                    replace H := Option.bind_eq_some_iff.mp H
                    obtain ⟨t299, A470, H⟩ := H
                    replace H : ((letterboxref11_number.f kj36 x5_33 t297 t299).bind fun bt300 => (if x7_36 = true then (if t295 < 0 then (some (0, 0, false)) else (if bt300.2 = true then (some (wrap64 ((wrap64 ((wrap64 (86400 * bt300.1)) + t295)) - (wrap64 (60 * x6_36))), x6_36, true)) else (some (0, 0, false)))) else (some (0, 0, false)))) = some (r1, r2, r3) := H
                    have A47 := Aside0.mk A470
                    clear A470
                    replace H := Option.bind_eq_some_iff.mp H
                    obtain ⟨⟨t300, t301⟩, A480, H⟩ := H
                    replace H : (if x7_36 = true then (if t295 < 0 then (some (0, 0, false)) else (if t301 = true then (some (wrap64 ((wrap64 ((wrap64 (86400 * t300)) + t295)) - (wrap64 (60 * x6_36))), x6_36, true)) else (some (0, 0, false)))) else (some (0, 0, false))) = some (r1, r2, r3) := H
                    have A48 := Aside0.mk A480
                    clear A480
                    by_cases c49 : x7_36 = true
                    ·subst c49
                     have H1 : (if t295 < 0 then (some (0, 0, false)) else (if t301 = true then (some (wrap64 ((wrap64 ((wrap64 (86400 * t300)) + t295)) - (wrap64 (60 * x6_36))), x6_36, true)) else (some (0, 0, false)))) = some (r1, r2, r3) := by rw [if_pos rfl] at H; exact H
                     clear H
                     have H := H1
                     clear H1
                     by_cases c50 : t295 < 0
                     ·rw [if_pos c50] at H
                      have c50b0 : decide (t295 < 0) = true := decide_eq_true c50
                      clear c50
                      simp only [Option.some.injEq, Prod.mk.injEq] at H
                      obtain ⟨rfl, rfl, rfl⟩ := H
                      have p294 : 0 ≤ (3 : Int) := (by omega)
                      have q294 : 3 < (x4_14.length : Int) := qd_
                      obtain ⟨ad294, e294, hx294_0⟩ := Kd.at_string (Kd.Q_reads' HO_4.out).2.2 3 p294 q294
                      obtain rfl : ad287 = ad294 := (by injection e294)
                      (try simp only [show (3 : Int).toNat = 3 from rfl, Nat.reduceMul, Nat.reduceEqDiff, Go.Addr.add, ↓reduceIte] at hx294_0)
                      have qi294 : (3 < x4_14.length) = True := eq_true (by omega)
                      (try rw [show ((3 : Int)).toNat = 3 from rfl] at hx294_0)
                      replace p294 := eq_true p294
                      replace q294 := eq_true q294
                      try go_wp2_with (first | ((with_reducible refine gate_callee (f := 31) rfl ?_); refine goesL_ (some 79) rfl rfl Tryd.func31 (by kernel_rfl) rfl #[.string (rdOf ByteArray.empty x4_14 3), .bool false, .int .i64 60] rfl qa_ ?_; (with_reducible refine (letterboxref11_clock.calls kj36 (rdOf ByteArray.empty x4_14 3) false 60 t295 _ A43.out).mono ?_); rintro e w' ⟨rfl, ⟨nd, rfl⟩⟩; refine ⟨_, rfl, ?_⟩; (try (rw [drewN_self wc]; generalize hq_ : World.drewN wc _ = wc; have n0_ : Aside0 (Kd.Q Kd.string 9 wc w.heap.size (fun _ => True) (.slice (some ad287) x4_14.length co29) x4_14) := ⟨by rw [← hq_]; exact (by (with_reducible repeat (first | apply Kd.Q_alloc | apply Kd.Q_drewN | apply Kd.Q_drew)); exact HO_4.out)⟩; have n1_ : Aside0 (wc.heap[gb277]? = some (.cells #[.int .i64 0, .int .i64 0] 27 (0, 0))) := ⟨by rw [← hq_]; exact (qk_ BK277.out)⟩; have n2_ : Aside0 (Below w.heap.size w wc) := ⟨by rw [← hq_]; exact (qb_ HB.out)⟩; clear HO_4 BK277 HB hq_; have HO_4 := n0_; have BK277 := n1_; have HB := n2_; clear n0_ n1_ n2_))))
                      have n0_ := Aside0.mk (Kd.Q_drew HO_4.out)
                      have n1_ := Aside0.mk (blk_drew BK277.out)
                      have n2_ := Aside0.mk (below_drew1 HB.out)
                      clear HO_4
                      clear BK277
                      clear HB
                      have HO_4 := n0_
                      have BK277 := n1_
                      have HB := n2_
                      clear n0_ n1_ n2_
                      have p296 : 0 ≤ (1 : Int) := (by omega)
                      have q296 : 1 < (x4_14.length : Int) := qd_
                      obtain ⟨ad296, e296, hx296_0⟩ := Kd.at_string (Kd.Q_reads' HO_4.out).2.2 1 p296 q296
                      obtain rfl : ad287 = ad296 := (by injection e296)
                      (try simp only [show (1 : Int).toNat = 1 from rfl, Nat.reduceMul, Nat.reduceEqDiff, Go.Addr.add, ↓reduceIte] at hx296_0)
                      have qi296 : (1 < x4_14.length) = True := eq_true (by omega)
                      (try rw [show ((1 : Int)).toNat = 1 from rfl] at hx296_0)
                      replace p296 := eq_true p296
                      replace q296 := eq_true q296
                      have p298 : 0 ≤ (0 : Int) := (by omega)
                      have q298 : 0 < (x4_14.length : Int) := qd_
                      obtain ⟨ad298, e298, hx298_0⟩ := Kd.at_string (Kd.Q_reads' HO_4.out).2.2 0 p298 q298
                      obtain rfl : ad287 = ad298 := (by injection e298)
                      have qi298 : (0 < x4_14.length) = True := eq_true (by omega)
                      (try rw [show ((0 : Int)).toNat = 0 from rfl] at hx298_0)
                      (try rw [Addr.add_zero'] at hx298_0)
                      replace p298 := eq_true p298
                      replace q298 := eq_true q298
                      refine start_ (n := 15) (S := fun w' => w'.cell? ⟨ad287.block, ad287.off + 1, none⟩ = some (.string (rdOf ByteArray.empty x4_14 1)) ∧ w'.cell? ad287 = some (.string (rdOf ByteArray.empty x4_14 0))) (ds := []) #[false, false, false, false, false, false, false, false, false, false, false, false, false, false, false] (by kernel_rfl) rfl rfl ⟨hx296_0, hx298_0⟩ (fun hHeld => ?_); refine with_tabW letterboxref11_Parse.tab18 letterboxref11_Parse.bits18 (fun HT_ HW_ => ?_)
                      generalize wc.drew = w51 at HO_4 BK277 HB hx296_0 hx298_0 hHeld ⊢
                      refine pure_ (i := 0) (N := some 81) (v := ?_) (a' := ?_) #[true, false, false, false, false, false, false, false, false, false, false, false, false, false, false] rfl rfl (any_of HT_.out (by kernel_rfl)) (fun _ _ _ h => h) (Or.inl ⟨by rfl, ?_⟩) ?_ ?_
                      rotate_left
                      ·intro w'
                       go_simp
                       with_reducible rfl
                      rotate_left
                      ·simp only [Act.put, List.setIfInBounds_toArray, List.set_cons_zero, List.set_cons_succ, i64_w, i32_w]
                       rfl
                      refine pure_ (i := 1) (N := some 82) (v := ?_) (a' := ?_) #[true, true, false, false, false, false, false, false, false, false, false, false, false, false, false] rfl rfl (any_of HT_.out (by kernel_rfl)) (fun _ _ _ h => h) (Or.inl ⟨by rfl, ?_⟩) ?_ ?_
                      rotate_left
                      ·intro w'
                       go_simp
                       with_reducible rfl
                      rotate_left
                      ·simp only [Act.put, List.setIfInBounds_toArray, List.set_cons_zero, List.set_cons_succ, i64_w, i32_w]
                       rfl
                      refine pure_ (i := 2) (N := some 83) (v := ?_) (a' := ?_) #[true, true, true, false, false, false, false, false, false, false, false, false, false, false, false] rfl rfl (any_of HT_.out (by kernel_rfl)) (fun _ _ _ h => h) (Or.inl ⟨by rfl, ?_⟩) ?_ ?_
                      rotate_left
                      ·intro w'
                       go_simp
                       with_reducible rfl
                      rotate_left
                      ·simp only [Act.put, List.setIfInBounds_toArray, List.set_cons_zero, List.set_cons_succ, i64_w, i32_w]
                       rfl
                      refine pure_ (i := 5) (N := some 86) (v := ?_) (a' := ?_) #[true, true, true, false, false, true, false, false, false, false, false, false, false, false, false] rfl rfl (any_of HT_.out (by kernel_rfl)) (fun _ _ _ h => h) (Or.inl ⟨by rfl, ?_⟩) ?_ ?_
                      rotate_left
                      ·intro w'
                       go_simp
                       with_reducible rfl
                      rotate_left
                      ·simp only [Act.put, List.setIfInBounds_toArray, List.set_cons_zero, List.set_cons_succ, i64_w, i32_w]
                       rfl
                      refine pure_ (i := 6) (N := some 87) (v := ?_) (a' := ?_) #[true, true, true, false, false, true, true, false, false, false, false, false, false, false, false] rfl rfl (any_of HT_.out (by kernel_rfl)) (fun _ _ _ h => h) (Or.inl ⟨by rfl, ?_⟩) ?_ ?_
                      rotate_left
                      ·intro w'
                       go_simp
                       with_reducible rfl
                      rotate_left
                      ·simp only [Act.put, List.setIfInBounds_toArray, List.set_cons_zero, List.set_cons_succ, i64_w, i32_w]
                       rfl
                      refine take_ (i := 3) (N := some 84) (v := ?_) (a' := ?_) #[true, true, true, true, false, true, true, false, false, false, false, false, false, false, false] rfl rfl (take_ofW HT_.out HW_.out (by kernel_rfl)) (fun _ _ _ h => h) (Or.inl ⟨by rfl, ?_⟩) hHeld ?_ ?_
                      rotate_left
                      ·rintro w' ⟨s0, s1⟩
                       go_simp
                       with_reducible rfl
                      rotate_left
                      ·simp only [Act.put, List.setIfInBounds_toArray, List.set_cons_zero, List.set_cons_succ, i64_w, i32_w]
                       rfl
                      refine take_ (i := 7) (N := some 88) (v := ?_) (a' := ?_) #[true, true, true, true, false, true, true, true, false, false, false, false, false, false, false] rfl rfl (take_ofW HT_.out HW_.out (by kernel_rfl)) (fun _ _ _ h => h) (Or.inl ⟨by rfl, ?_⟩) hHeld ?_ ?_
                      rotate_left
                      ·rintro w' ⟨s0, s1⟩
                       go_simp
                       with_reducible rfl
                      rotate_left
                      ·simp only [Act.put, List.setIfInBounds_toArray, List.set_cons_zero, List.set_cons_succ, i64_w, i32_w]
                       rfl
                      refine one_ (i := 4) (N := some 85) #[true, true, true, true, true, true, true, true, false, false, false, false, false, false, false] rfl rfl (one_of HT_.out (by kernel_rfl)) (by decide) (fun K hK => ?_)
                      refine goes_ Tryd.func33 (by kernel_rfl) rfl #[.string (rdOf ByteArray.empty x4_14 1)] (by rfl) rfl rfl qa_ ?_
                      with_reducible refine (letterboxref11_month.calls kj36 (rdOf ByteArray.empty x4_14 1) t297 _ A45.out).mono ?_
                      rintro e w52 ⟨rfl, hb⟩
                      have HS0_ := (hb.cell (World.block_lt_of_cell? _ _ (hHeld.1))).trans (hHeld.1)
                      have HS1_ := (hb.cell (World.block_lt_of_cell? _ _ (hHeld.2))).trans (hHeld.2)
                      refine ⟨_, rfl, ?_⟩
                      have n0_ := Aside0.mk (Kd.Q_below (by (with_reducible repeat (first | apply Kd.Q_alloc | apply Kd.Q_drewN | apply Kd.Q_drew)); exact HO_4.out) hb)
                      have n1_ := Aside0.mk (blk_below (g := gb277) (o := .cells #[.int .i64 0, .int .i64 0] 27 (0, 0)) (qk_ BK277.out) hb)
                      have n2_ := Aside0.mk (below_step (qb_ HB.out) hb)
                      clear HO_4
                      clear BK277
                      clear HB
                      have HO_4 := n0_
                      have BK277 := n1_
                      have HB := n2_
                      clear n0_ n1_ n2_
                      (try clear hb)
                      (try clear hb2)
                      (try clear hk)
                      (try clear hi)
                      refine hK.out _ _ ⟨HS0_, HS1_⟩ (fun hHeld => ?_)
                      clear hK K
                      refine norm_ (a' := ?_) ?_ ?_
                      rotate_left
                      ·show Act.put _ (some 85) _ = _
                       simp only [Act.put, List.setIfInBounds_toArray, List.set_cons_zero, List.set_cons_succ, i64_w, i32_w]
                       rfl
                      refine one_ (i := 8) (N := some 89) #[true, true, true, true, true, true, true, true, true, false, false, false, false, false, false] rfl rfl (one_of HT_.out (by kernel_rfl)) (by decide) (fun K hK => ?_)
                      refine goes_ Tryd.func29 (by kernel_rfl) rfl #[.string (rdOf ByteArray.empty x4_14 0), .int .i64 1, .int .i64 2] (by rfl) rfl rfl qa_ ?_
                      with_reducible refine (letterboxref11_digits.calls kj36 (rdOf ByteArray.empty x4_14 0) 1 2 t299 _ A47.out).mono ?_
                      rintro e w' ⟨rfl, ⟨nd, rfl⟩⟩
                      refine ⟨_, rfl, ?_⟩
                      refine hK.out _ _ ⟨hHeld.1, hHeld.2⟩ (fun hHeld => ?_)
                      clear hK K
                      refine norm_ (a' := ?_) ?_ ?_
                      rotate_left
                      ·show Act.put _ (some 89) _ = _
                       simp only [Act.put, List.setIfInBounds_toArray, List.set_cons_zero, List.set_cons_succ, i64_w, i32_w]
                       rfl
                      refine one_ (i := 9) (N := some 90) #[true, true, true, true, true, true, true, true, true, true, false, false, false, false, false] rfl rfl (one_of HT_.out (by kernel_rfl)) (by decide) (fun K hK => ?_)
                      refine goes_ Tryd.func32 (by kernel_rfl) rfl #[.int .i64 x5_33, .int .i64 t297, .int .i64 t299] (by rfl) rfl rfl qa_ ?_
                      with_reducible refine (letterboxref11_number.calls kj36 x5_33 t297 t299 t300 t301 _ A48.out).mono ?_
                      rintro e w' ⟨rfl, ⟨nd, rfl⟩⟩
                      refine ⟨_, rfl, ?_⟩
                      refine hK.out _ _ ⟨hHeld.1, hHeld.2⟩ (fun hHeld => ?_)
                      clear hK K
                      refine norm_ (a' := ?_) ?_ ?_
                      rotate_left
                      ·show Act.put _ (some 90) _ = _
                       simp only [Act.put, List.setIfInBounds_toArray, List.set_cons_zero, List.set_cons_succ, i64_w, i32_w]
                       rfl
                      refine pure_ (i := 10) (N := some 80) (v := ?_) (a' := ?_) #[true, true, true, true, true, true, true, true, true, true, true, false, false, false, false] rfl rfl (any_of HT_.out (by kernel_rfl)) (fun _ _ _ h => h) (Or.inl ⟨by rfl, ?_⟩) ?_ ?_
                      rotate_left
                      ·intro w'
                       go_simp
                       with_reducible rfl
                      rotate_left
                      ·simp only [Act.put, List.setIfInBounds_toArray, List.set_cons_zero, List.set_cons_succ, i64_w, i32_w]
                       rfl
                      refine pure_ (i := 11) (N := some 91) (v := ?_) (a' := ?_) #[true, true, true, true, true, true, true, true, true, true, true, true, false, false, false] rfl rfl (any_of HT_.out (by kernel_rfl)) (fun _ _ _ h => h) (Or.inl ⟨by rfl, ?_⟩) ?_ ?_
                      rotate_left
                      ·intro w'
                       go_simp
                       with_reducible rfl
                      rotate_left
                      ·simp only [Act.put, List.setIfInBounds_toArray, List.set_cons_zero, List.set_cons_succ, i64_w, i32_w]
                       rfl
                      refine pure_ (i := 12) (N := some 92) (v := ?_) (a' := ?_) #[true, true, true, true, true, true, true, true, true, true, true, true, true, false, false] rfl rfl (any_of HT_.out (by kernel_rfl)) (fun _ _ _ h => h) (Or.inl ⟨by rfl, ?_⟩) ?_ ?_
                      rotate_left
                      ·intro w'
                       go_simp
                       with_reducible rfl
                      rotate_left
                      ·simp only [Act.put, List.setIfInBounds_toArray, List.set_cons_zero, List.set_cons_succ, i64_w, i32_w]
                       rfl
                      refine pure_ (i := 13) (N := some 9) (v := ?_) (a' := ?_) #[true, true, true, true, true, true, true, true, true, true, true, true, true, true, false] rfl rfl (any_of HT_.out (by kernel_rfl)) (fun _ _ _ h => h) (Or.inl ⟨by rfl, ?_⟩) ?_ ?_
                      rotate_left
                      ·intro w'
                       go_simp
                       with_reducible rfl
                      rotate_left
                      ·simp only [Act.put, List.setIfInBounds_toArray, List.set_cons_zero, List.set_cons_succ, i64_w, i32_w]
                       rfl
                      refine pure_ (i := 14) (N := some 10) (v := ?_) (a' := ?_) #[true, true, true, true, true, true, true, true, true, true, true, true, true, true, true] rfl rfl (any_of HT_.out (by kernel_rfl)) (fun _ _ _ h => h) (Or.inl ⟨by rfl, ?_⟩) ?_ ?_
                      rotate_left
                      ·intro w'
                       go_simp
                       with_reducible rfl
                      rotate_left
                      ·simp only [Act.put, List.setIfInBounds_toArray, List.set_cons_zero, List.set_cons_succ, i64_w, i32_w]
                       rfl
                      refine done_ (done_of HT_.out (by kernel_rfl)) ?_
                      obtain ⟨hcz53_0, hcz53_1, hfz53_0, hfz53_1⟩ := cz2_ BK277.out
                      try go_wp2
                      refine bodyPost_ret (results_ct rfl _ _ gb277 27 #[.int .i64 0, .int .i64 0] (0, 0) _ rfl (qs2_ (qk_ BK277.out)) Tryd.underlying27 rfl (by kernel_rfl)) rfl ?_
                      exact ⟨qw_, qb_ HB.out⟩
                     ·rw [if_neg c50] at H
                      have c50b0 : decide (t295 < 0) = false := decide_eq_false c50
                      clear c50
                      by_cases c54 : t301 = true
                      ·subst c54
                       have H1 : (some (wrap64 ((wrap64 ((wrap64 (86400 * t300)) + t295)) - (wrap64 (60 * x6_36))), x6_36, true)) = some (r1, r2, r3) := by rw [if_pos rfl] at H; exact H
                       clear H
                       have H := H1
                       clear H1
                       simp only [Option.some.injEq, Prod.mk.injEq] at H
                       obtain ⟨rfl, rfl, rfl⟩ := H
                       have p294 : 0 ≤ (3 : Int) := (by omega)
                       have q294 : 3 < (x4_14.length : Int) := qd_
                       obtain ⟨ad294, e294, hx294_0⟩ := Kd.at_string (Kd.Q_reads' HO_4.out).2.2 3 p294 q294
                       obtain rfl : ad287 = ad294 := (by injection e294)
                       (try simp only [show (3 : Int).toNat = 3 from rfl, Nat.reduceMul, Nat.reduceEqDiff, Go.Addr.add, ↓reduceIte] at hx294_0)
                       have qi294 : (3 < x4_14.length) = True := eq_true (by omega)
                       (try rw [show ((3 : Int)).toNat = 3 from rfl] at hx294_0)
                       replace p294 := eq_true p294
                       replace q294 := eq_true q294
                       try go_wp2_with (first | ((with_reducible refine gate_callee (f := 31) rfl ?_); refine goesL_ (some 79) rfl rfl Tryd.func31 (by kernel_rfl) rfl #[.string (rdOf ByteArray.empty x4_14 3), .bool false, .int .i64 60] rfl qa_ ?_; (with_reducible refine (letterboxref11_clock.calls kj36 (rdOf ByteArray.empty x4_14 3) false 60 t295 _ A43.out).mono ?_); rintro e w' ⟨rfl, ⟨nd, rfl⟩⟩; refine ⟨_, rfl, ?_⟩; (try (rw [drewN_self wc]; generalize hq_ : World.drewN wc _ = wc; have n0_ : Aside0 (Kd.Q Kd.string 9 wc w.heap.size (fun _ => True) (.slice (some ad287) x4_14.length co29) x4_14) := ⟨by rw [← hq_]; exact (by (with_reducible repeat (first | apply Kd.Q_alloc | apply Kd.Q_drewN | apply Kd.Q_drew)); exact HO_4.out)⟩; have n1_ : Aside0 (wc.heap[gb277]? = some (.cells #[.int .i64 0, .int .i64 0] 27 (0, 0))) := ⟨by rw [← hq_]; exact (qk_ BK277.out)⟩; have n2_ : Aside0 (Below w.heap.size w wc) := ⟨by rw [← hq_]; exact (qb_ HB.out)⟩; clear HO_4 BK277 HB hq_; have HO_4 := n0_; have BK277 := n1_; have HB := n2_; clear n0_ n1_ n2_))))
                       have n0_ := Aside0.mk (Kd.Q_drew HO_4.out)
                       have n1_ := Aside0.mk (blk_drew BK277.out)
                       have n2_ := Aside0.mk (below_drew1 HB.out)
                       clear HO_4
                       clear BK277
                       clear HB
                       have HO_4 := n0_
                       have BK277 := n1_
                       have HB := n2_
                       clear n0_ n1_ n2_
                       have p296 : 0 ≤ (1 : Int) := (by omega)
                       have q296 : 1 < (x4_14.length : Int) := qd_
                       obtain ⟨ad296, e296, hx296_0⟩ := Kd.at_string (Kd.Q_reads' HO_4.out).2.2 1 p296 q296
                       obtain rfl : ad287 = ad296 := (by injection e296)
                       (try simp only [show (1 : Int).toNat = 1 from rfl, Nat.reduceMul, Nat.reduceEqDiff, Go.Addr.add, ↓reduceIte] at hx296_0)
                       have qi296 : (1 < x4_14.length) = True := eq_true (by omega)
                       (try rw [show ((1 : Int)).toNat = 1 from rfl] at hx296_0)
                       replace p296 := eq_true p296
                       replace q296 := eq_true q296
                       have p298 : 0 ≤ (0 : Int) := (by omega)
                       have q298 : 0 < (x4_14.length : Int) := qd_
                       obtain ⟨ad298, e298, hx298_0⟩ := Kd.at_string (Kd.Q_reads' HO_4.out).2.2 0 p298 q298
                       obtain rfl : ad287 = ad298 := (by injection e298)
                       have qi298 : (0 < x4_14.length) = True := eq_true (by omega)
                       (try rw [show ((0 : Int)).toNat = 0 from rfl] at hx298_0)
                       (try rw [Addr.add_zero'] at hx298_0)
                       replace p298 := eq_true p298
                       replace q298 := eq_true q298
                       refine start_ (n := 15) (S := fun w' => w'.cell? ⟨ad287.block, ad287.off + 1, none⟩ = some (.string (rdOf ByteArray.empty x4_14 1)) ∧ w'.cell? ad287 = some (.string (rdOf ByteArray.empty x4_14 0))) (ds := []) #[false, false, false, false, false, false, false, false, false, false, false, false, false, false, false] (by kernel_rfl) rfl rfl ⟨hx296_0, hx298_0⟩ (fun hHeld => ?_); refine with_tabW letterboxref11_Parse.tab18 letterboxref11_Parse.bits18 (fun HT_ HW_ => ?_)
                       generalize wc.drew = w55 at HO_4 BK277 HB hx296_0 hx298_0 hHeld ⊢
                       refine pure_ (i := 0) (N := some 81) (v := ?_) (a' := ?_) #[true, false, false, false, false, false, false, false, false, false, false, false, false, false, false] rfl rfl (any_of HT_.out (by kernel_rfl)) (fun _ _ _ h => h) (Or.inl ⟨by rfl, ?_⟩) ?_ ?_
                       rotate_left
                       ·intro w'
                        go_simp
                        with_reducible rfl
                       rotate_left
                       ·simp only [Act.put, List.setIfInBounds_toArray, List.set_cons_zero, List.set_cons_succ, i64_w, i32_w]
                        rfl
                       refine pure_ (i := 1) (N := some 82) (v := ?_) (a' := ?_) #[true, true, false, false, false, false, false, false, false, false, false, false, false, false, false] rfl rfl (any_of HT_.out (by kernel_rfl)) (fun _ _ _ h => h) (Or.inl ⟨by rfl, ?_⟩) ?_ ?_
                       rotate_left
                       ·intro w'
                        go_simp
                        with_reducible rfl
                       rotate_left
                       ·simp only [Act.put, List.setIfInBounds_toArray, List.set_cons_zero, List.set_cons_succ, i64_w, i32_w]
                        rfl
                       refine pure_ (i := 2) (N := some 83) (v := ?_) (a' := ?_) #[true, true, true, false, false, false, false, false, false, false, false, false, false, false, false] rfl rfl (any_of HT_.out (by kernel_rfl)) (fun _ _ _ h => h) (Or.inl ⟨by rfl, ?_⟩) ?_ ?_
                       rotate_left
                       ·intro w'
                        go_simp
                        with_reducible rfl
                       rotate_left
                       ·simp only [Act.put, List.setIfInBounds_toArray, List.set_cons_zero, List.set_cons_succ, i64_w, i32_w]
                        rfl
                       refine pure_ (i := 5) (N := some 86) (v := ?_) (a' := ?_) #[true, true, true, false, false, true, false, false, false, false, false, false, false, false, false] rfl rfl (any_of HT_.out (by kernel_rfl)) (fun _ _ _ h => h) (Or.inl ⟨by rfl, ?_⟩) ?_ ?_
                       rotate_left
                       ·intro w'
                        go_simp
                        with_reducible rfl
                       rotate_left
                       ·simp only [Act.put, List.setIfInBounds_toArray, List.set_cons_zero, List.set_cons_succ, i64_w, i32_w]
                        rfl
                       refine pure_ (i := 6) (N := some 87) (v := ?_) (a' := ?_) #[true, true, true, false, false, true, true, false, false, false, false, false, false, false, false] rfl rfl (any_of HT_.out (by kernel_rfl)) (fun _ _ _ h => h) (Or.inl ⟨by rfl, ?_⟩) ?_ ?_
                       rotate_left
                       ·intro w'
                        go_simp
                        with_reducible rfl
                       rotate_left
                       ·simp only [Act.put, List.setIfInBounds_toArray, List.set_cons_zero, List.set_cons_succ, i64_w, i32_w]
                        rfl
                       refine take_ (i := 3) (N := some 84) (v := ?_) (a' := ?_) #[true, true, true, true, false, true, true, false, false, false, false, false, false, false, false] rfl rfl (take_ofW HT_.out HW_.out (by kernel_rfl)) (fun _ _ _ h => h) (Or.inl ⟨by rfl, ?_⟩) hHeld ?_ ?_
                       rotate_left
                       ·rintro w' ⟨s0, s1⟩
                        go_simp
                        with_reducible rfl
                       rotate_left
                       ·simp only [Act.put, List.setIfInBounds_toArray, List.set_cons_zero, List.set_cons_succ, i64_w, i32_w]
                        rfl
                       refine take_ (i := 7) (N := some 88) (v := ?_) (a' := ?_) #[true, true, true, true, false, true, true, true, false, false, false, false, false, false, false] rfl rfl (take_ofW HT_.out HW_.out (by kernel_rfl)) (fun _ _ _ h => h) (Or.inl ⟨by rfl, ?_⟩) hHeld ?_ ?_
                       rotate_left
                       ·rintro w' ⟨s0, s1⟩
                        go_simp
                        with_reducible rfl
                       rotate_left
                       ·simp only [Act.put, List.setIfInBounds_toArray, List.set_cons_zero, List.set_cons_succ, i64_w, i32_w]
                        rfl
                       refine one_ (i := 4) (N := some 85) #[true, true, true, true, true, true, true, true, false, false, false, false, false, false, false] rfl rfl (one_of HT_.out (by kernel_rfl)) (by decide) (fun K hK => ?_)
                       refine goes_ Tryd.func33 (by kernel_rfl) rfl #[.string (rdOf ByteArray.empty x4_14 1)] (by rfl) rfl rfl qa_ ?_
                       with_reducible refine (letterboxref11_month.calls kj36 (rdOf ByteArray.empty x4_14 1) t297 _ A45.out).mono ?_
                       rintro e w56 ⟨rfl, hb⟩
                       have HS0_ := (hb.cell (World.block_lt_of_cell? _ _ (hHeld.1))).trans (hHeld.1)
                       have HS1_ := (hb.cell (World.block_lt_of_cell? _ _ (hHeld.2))).trans (hHeld.2)
                       refine ⟨_, rfl, ?_⟩
                       have n0_ := Aside0.mk (Kd.Q_below (by (with_reducible repeat (first | apply Kd.Q_alloc | apply Kd.Q_drewN | apply Kd.Q_drew)); exact HO_4.out) hb)
                       have n1_ := Aside0.mk (blk_below (g := gb277) (o := .cells #[.int .i64 0, .int .i64 0] 27 (0, 0)) (qk_ BK277.out) hb)
                       have n2_ := Aside0.mk (below_step (qb_ HB.out) hb)
                       clear HO_4
                       clear BK277
                       clear HB
                       have HO_4 := n0_
                       have BK277 := n1_
                       have HB := n2_
                       clear n0_ n1_ n2_
                       (try clear hb)
                       (try clear hb2)
                       (try clear hk)
                       (try clear hi)
                       refine hK.out _ _ ⟨HS0_, HS1_⟩ (fun hHeld => ?_)
                       clear hK K
                       refine norm_ (a' := ?_) ?_ ?_
                       rotate_left
                       ·show Act.put _ (some 85) _ = _
                        simp only [Act.put, List.setIfInBounds_toArray, List.set_cons_zero, List.set_cons_succ, i64_w, i32_w]
                        rfl
                       refine one_ (i := 8) (N := some 89) #[true, true, true, true, true, true, true, true, true, false, false, false, false, false, false] rfl rfl (one_of HT_.out (by kernel_rfl)) (by decide) (fun K hK => ?_)
                       refine goes_ Tryd.func29 (by kernel_rfl) rfl #[.string (rdOf ByteArray.empty x4_14 0), .int .i64 1, .int .i64 2] (by rfl) rfl rfl qa_ ?_
                       with_reducible refine (letterboxref11_digits.calls kj36 (rdOf ByteArray.empty x4_14 0) 1 2 t299 _ A47.out).mono ?_
                       rintro e w' ⟨rfl, ⟨nd, rfl⟩⟩
                       refine ⟨_, rfl, ?_⟩
                       refine hK.out _ _ ⟨hHeld.1, hHeld.2⟩ (fun hHeld => ?_)
                       clear hK K
                       refine norm_ (a' := ?_) ?_ ?_
                       rotate_left
                       ·show Act.put _ (some 89) _ = _
                        simp only [Act.put, List.setIfInBounds_toArray, List.set_cons_zero, List.set_cons_succ, i64_w, i32_w]
                        rfl
                       refine one_ (i := 9) (N := some 90) #[true, true, true, true, true, true, true, true, true, true, false, false, false, false, false] rfl rfl (one_of HT_.out (by kernel_rfl)) (by decide) (fun K hK => ?_)
                       refine goes_ Tryd.func32 (by kernel_rfl) rfl #[.int .i64 x5_33, .int .i64 t297, .int .i64 t299] (by rfl) rfl rfl qa_ ?_
                       with_reducible refine (letterboxref11_number.calls kj36 x5_33 t297 t299 t300 true _ A48.out).mono ?_
                       rintro e w' ⟨rfl, ⟨nd, rfl⟩⟩
                       refine ⟨_, rfl, ?_⟩
                       refine hK.out _ _ ⟨hHeld.1, hHeld.2⟩ (fun hHeld => ?_)
                       clear hK K
                       refine norm_ (a' := ?_) ?_ ?_
                       rotate_left
                       ·show Act.put _ (some 90) _ = _
                        simp only [Act.put, List.setIfInBounds_toArray, List.set_cons_zero, List.set_cons_succ, i64_w, i32_w]
                        rfl
                       refine pure_ (i := 10) (N := some 80) (v := ?_) (a' := ?_) #[true, true, true, true, true, true, true, true, true, true, true, false, false, false, false] rfl rfl (any_of HT_.out (by kernel_rfl)) (fun _ _ _ h => h) (Or.inl ⟨by rfl, ?_⟩) ?_ ?_
                       rotate_left
                       ·intro w'
                        go_simp
                        with_reducible rfl
                       rotate_left
                       ·simp only [Act.put, List.setIfInBounds_toArray, List.set_cons_zero, List.set_cons_succ, i64_w, i32_w]
                        rfl
                       refine pure_ (i := 11) (N := some 91) (v := ?_) (a' := ?_) #[true, true, true, true, true, true, true, true, true, true, true, true, false, false, false] rfl rfl (any_of HT_.out (by kernel_rfl)) (fun _ _ _ h => h) (Or.inl ⟨by rfl, ?_⟩) ?_ ?_
                       rotate_left
                       ·intro w'
                        go_simp
                        with_reducible rfl
                       rotate_left
                       ·simp only [Act.put, List.setIfInBounds_toArray, List.set_cons_zero, List.set_cons_succ, i64_w, i32_w]
                        rfl
                       refine pure_ (i := 12) (N := some 92) (v := ?_) (a' := ?_) #[true, true, true, true, true, true, true, true, true, true, true, true, true, false, false] rfl rfl (any_of HT_.out (by kernel_rfl)) (fun _ _ _ h => h) (Or.inl ⟨by rfl, ?_⟩) ?_ ?_
                       rotate_left
                       ·intro w'
                        go_simp
                        with_reducible rfl
                       rotate_left
                       ·simp only [Act.put, List.setIfInBounds_toArray, List.set_cons_zero, List.set_cons_succ, i64_w, i32_w]
                        rfl
                       refine pure_ (i := 13) (N := some 9) (v := ?_) (a' := ?_) #[true, true, true, true, true, true, true, true, true, true, true, true, true, true, false] rfl rfl (any_of HT_.out (by kernel_rfl)) (fun _ _ _ h => h) (Or.inl ⟨by rfl, ?_⟩) ?_ ?_
                       rotate_left
                       ·intro w'
                        go_simp
                        with_reducible rfl
                       rotate_left
                       ·simp only [Act.put, List.setIfInBounds_toArray, List.set_cons_zero, List.set_cons_succ, i64_w, i32_w]
                        rfl
                       refine pure_ (i := 14) (N := some 10) (v := ?_) (a' := ?_) #[true, true, true, true, true, true, true, true, true, true, true, true, true, true, true] rfl rfl (any_of HT_.out (by kernel_rfl)) (fun _ _ _ h => h) (Or.inl ⟨by rfl, ?_⟩) ?_ ?_
                       rotate_left
                       ·intro w'
                        go_simp
                        with_reducible rfl
                       rotate_left
                       ·simp only [Act.put, List.setIfInBounds_toArray, List.set_cons_zero, List.set_cons_succ, i64_w, i32_w]
                        rfl
                       refine done_ (done_of HT_.out (by kernel_rfl)) ?_
                       obtain ⟨hcz57_0, hcz57_1, hfz57_0, hfz57_1⟩ := cz2_ BK277.out
                       try go_wp2
                       refine bodyPost_ret (results_ct rfl _ _ gb277 27 #[.int .i64 (wrap64 ((wrap64 ((wrap64 (86400 * t300)) + t295)) - (wrap64 (60 * x6_36)))), .int .i64 x6_36] (0, 0) _ rfl (qs2_ (qk_ BK277.out)) Tryd.underlying27 rfl (by kernel_rfl)) rfl ?_
                       exact ⟨qw_, qb_ HB.out⟩
                      ·replace c54 := Bool.eq_false_iff.mpr c54
                       subst c54
                       have H1 : (some (0, 0, false)) = some (r1, r2, r3) := by rw [if_neg (show ¬ (false = true) by decide)] at H; exact H
                       clear H
                       have H := H1
                       clear H1
                       simp only [Option.some.injEq, Prod.mk.injEq] at H
                       obtain ⟨rfl, rfl, rfl⟩ := H
                       have p294 : 0 ≤ (3 : Int) := (by omega)
                       have q294 : 3 < (x4_14.length : Int) := qd_
                       obtain ⟨ad294, e294, hx294_0⟩ := Kd.at_string (Kd.Q_reads' HO_4.out).2.2 3 p294 q294
                       obtain rfl : ad287 = ad294 := (by injection e294)
                       (try simp only [show (3 : Int).toNat = 3 from rfl, Nat.reduceMul, Nat.reduceEqDiff, Go.Addr.add, ↓reduceIte] at hx294_0)
                       have qi294 : (3 < x4_14.length) = True := eq_true (by omega)
                       (try rw [show ((3 : Int)).toNat = 3 from rfl] at hx294_0)
                       replace p294 := eq_true p294
                       replace q294 := eq_true q294
                       try go_wp2_with (first | ((with_reducible refine gate_callee (f := 31) rfl ?_); refine goesL_ (some 79) rfl rfl Tryd.func31 (by kernel_rfl) rfl #[.string (rdOf ByteArray.empty x4_14 3), .bool false, .int .i64 60] rfl qa_ ?_; (with_reducible refine (letterboxref11_clock.calls kj36 (rdOf ByteArray.empty x4_14 3) false 60 t295 _ A43.out).mono ?_); rintro e w' ⟨rfl, ⟨nd, rfl⟩⟩; refine ⟨_, rfl, ?_⟩; (try (rw [drewN_self wc]; generalize hq_ : World.drewN wc _ = wc; have n0_ : Aside0 (Kd.Q Kd.string 9 wc w.heap.size (fun _ => True) (.slice (some ad287) x4_14.length co29) x4_14) := ⟨by rw [← hq_]; exact (by (with_reducible repeat (first | apply Kd.Q_alloc | apply Kd.Q_drewN | apply Kd.Q_drew)); exact HO_4.out)⟩; have n1_ : Aside0 (wc.heap[gb277]? = some (.cells #[.int .i64 0, .int .i64 0] 27 (0, 0))) := ⟨by rw [← hq_]; exact (qk_ BK277.out)⟩; have n2_ : Aside0 (Below w.heap.size w wc) := ⟨by rw [← hq_]; exact (qb_ HB.out)⟩; clear HO_4 BK277 HB hq_; have HO_4 := n0_; have BK277 := n1_; have HB := n2_; clear n0_ n1_ n2_))))
                       have n0_ := Aside0.mk (Kd.Q_drew HO_4.out)
                       have n1_ := Aside0.mk (blk_drew BK277.out)
                       have n2_ := Aside0.mk (below_drew1 HB.out)
                       clear HO_4
                       clear BK277
                       clear HB
                       have HO_4 := n0_
                       have BK277 := n1_
                       have HB := n2_
                       clear n0_ n1_ n2_
                       have p296 : 0 ≤ (1 : Int) := (by omega)
                       have q296 : 1 < (x4_14.length : Int) := qd_
                       obtain ⟨ad296, e296, hx296_0⟩ := Kd.at_string (Kd.Q_reads' HO_4.out).2.2 1 p296 q296
                       obtain rfl : ad287 = ad296 := (by injection e296)
                       (try simp only [show (1 : Int).toNat = 1 from rfl, Nat.reduceMul, Nat.reduceEqDiff, Go.Addr.add, ↓reduceIte] at hx296_0)
                       have qi296 : (1 < x4_14.length) = True := eq_true (by omega)
                       (try rw [show ((1 : Int)).toNat = 1 from rfl] at hx296_0)
                       replace p296 := eq_true p296
                       replace q296 := eq_true q296
                       have p298 : 0 ≤ (0 : Int) := (by omega)
                       have q298 : 0 < (x4_14.length : Int) := qd_
                       obtain ⟨ad298, e298, hx298_0⟩ := Kd.at_string (Kd.Q_reads' HO_4.out).2.2 0 p298 q298
                       obtain rfl : ad287 = ad298 := (by injection e298)
                       have qi298 : (0 < x4_14.length) = True := eq_true (by omega)
                       (try rw [show ((0 : Int)).toNat = 0 from rfl] at hx298_0)
                       (try rw [Addr.add_zero'] at hx298_0)
                       replace p298 := eq_true p298
                       replace q298 := eq_true q298
                       refine start_ (n := 15) (S := fun w' => w'.cell? ⟨ad287.block, ad287.off + 1, none⟩ = some (.string (rdOf ByteArray.empty x4_14 1)) ∧ w'.cell? ad287 = some (.string (rdOf ByteArray.empty x4_14 0))) (ds := []) #[false, false, false, false, false, false, false, false, false, false, false, false, false, false, false] (by kernel_rfl) rfl rfl ⟨hx296_0, hx298_0⟩ (fun hHeld => ?_); refine with_tabW letterboxref11_Parse.tab18 letterboxref11_Parse.bits18 (fun HT_ HW_ => ?_)
                       generalize wc.drew = w58 at HO_4 BK277 HB hx296_0 hx298_0 hHeld ⊢
                       refine pure_ (i := 0) (N := some 81) (v := ?_) (a' := ?_) #[true, false, false, false, false, false, false, false, false, false, false, false, false, false, false] rfl rfl (any_of HT_.out (by kernel_rfl)) (fun _ _ _ h => h) (Or.inl ⟨by rfl, ?_⟩) ?_ ?_
                       rotate_left
                       ·intro w'
                        go_simp
                        with_reducible rfl
                       rotate_left
                       ·simp only [Act.put, List.setIfInBounds_toArray, List.set_cons_zero, List.set_cons_succ, i64_w, i32_w]
                        rfl
                       refine pure_ (i := 1) (N := some 82) (v := ?_) (a' := ?_) #[true, true, false, false, false, false, false, false, false, false, false, false, false, false, false] rfl rfl (any_of HT_.out (by kernel_rfl)) (fun _ _ _ h => h) (Or.inl ⟨by rfl, ?_⟩) ?_ ?_
                       rotate_left
                       ·intro w'
                        go_simp
                        with_reducible rfl
                       rotate_left
                       ·simp only [Act.put, List.setIfInBounds_toArray, List.set_cons_zero, List.set_cons_succ, i64_w, i32_w]
                        rfl
                       refine pure_ (i := 2) (N := some 83) (v := ?_) (a' := ?_) #[true, true, true, false, false, false, false, false, false, false, false, false, false, false, false] rfl rfl (any_of HT_.out (by kernel_rfl)) (fun _ _ _ h => h) (Or.inl ⟨by rfl, ?_⟩) ?_ ?_
                       rotate_left
                       ·intro w'
                        go_simp
                        with_reducible rfl
                       rotate_left
                       ·simp only [Act.put, List.setIfInBounds_toArray, List.set_cons_zero, List.set_cons_succ, i64_w, i32_w]
                        rfl
                       refine pure_ (i := 5) (N := some 86) (v := ?_) (a' := ?_) #[true, true, true, false, false, true, false, false, false, false, false, false, false, false, false] rfl rfl (any_of HT_.out (by kernel_rfl)) (fun _ _ _ h => h) (Or.inl ⟨by rfl, ?_⟩) ?_ ?_
                       rotate_left
                       ·intro w'
                        go_simp
                        with_reducible rfl
                       rotate_left
                       ·simp only [Act.put, List.setIfInBounds_toArray, List.set_cons_zero, List.set_cons_succ, i64_w, i32_w]
                        rfl
                       refine pure_ (i := 6) (N := some 87) (v := ?_) (a' := ?_) #[true, true, true, false, false, true, true, false, false, false, false, false, false, false, false] rfl rfl (any_of HT_.out (by kernel_rfl)) (fun _ _ _ h => h) (Or.inl ⟨by rfl, ?_⟩) ?_ ?_
                       rotate_left
                       ·intro w'
                        go_simp
                        with_reducible rfl
                       rotate_left
                       ·simp only [Act.put, List.setIfInBounds_toArray, List.set_cons_zero, List.set_cons_succ, i64_w, i32_w]
                        rfl
                       refine take_ (i := 3) (N := some 84) (v := ?_) (a' := ?_) #[true, true, true, true, false, true, true, false, false, false, false, false, false, false, false] rfl rfl (take_ofW HT_.out HW_.out (by kernel_rfl)) (fun _ _ _ h => h) (Or.inl ⟨by rfl, ?_⟩) hHeld ?_ ?_
                       rotate_left
                       ·rintro w' ⟨s0, s1⟩
                        go_simp
                        with_reducible rfl
                       rotate_left
                       ·simp only [Act.put, List.setIfInBounds_toArray, List.set_cons_zero, List.set_cons_succ, i64_w, i32_w]
                        rfl
                       refine take_ (i := 7) (N := some 88) (v := ?_) (a' := ?_) #[true, true, true, true, false, true, true, true, false, false, false, false, false, false, false] rfl rfl (take_ofW HT_.out HW_.out (by kernel_rfl)) (fun _ _ _ h => h) (Or.inl ⟨by rfl, ?_⟩) hHeld ?_ ?_
                       rotate_left
                       ·rintro w' ⟨s0, s1⟩
                        go_simp
                        with_reducible rfl
                       rotate_left
                       ·simp only [Act.put, List.setIfInBounds_toArray, List.set_cons_zero, List.set_cons_succ, i64_w, i32_w]
                        rfl
                       refine one_ (i := 4) (N := some 85) #[true, true, true, true, true, true, true, true, false, false, false, false, false, false, false] rfl rfl (one_of HT_.out (by kernel_rfl)) (by decide) (fun K hK => ?_)
                       refine goes_ Tryd.func33 (by kernel_rfl) rfl #[.string (rdOf ByteArray.empty x4_14 1)] (by rfl) rfl rfl qa_ ?_
                       with_reducible refine (letterboxref11_month.calls kj36 (rdOf ByteArray.empty x4_14 1) t297 _ A45.out).mono ?_
                       rintro e w59 ⟨rfl, hb⟩
                       have HS0_ := (hb.cell (World.block_lt_of_cell? _ _ (hHeld.1))).trans (hHeld.1)
                       have HS1_ := (hb.cell (World.block_lt_of_cell? _ _ (hHeld.2))).trans (hHeld.2)
                       refine ⟨_, rfl, ?_⟩
                       have n0_ := Aside0.mk (Kd.Q_below (by (with_reducible repeat (first | apply Kd.Q_alloc | apply Kd.Q_drewN | apply Kd.Q_drew)); exact HO_4.out) hb)
                       have n1_ := Aside0.mk (blk_below (g := gb277) (o := .cells #[.int .i64 0, .int .i64 0] 27 (0, 0)) (qk_ BK277.out) hb)
                       have n2_ := Aside0.mk (below_step (qb_ HB.out) hb)
                       clear HO_4
                       clear BK277
                       clear HB
                       have HO_4 := n0_
                       have BK277 := n1_
                       have HB := n2_
                       clear n0_ n1_ n2_
                       (try clear hb)
                       (try clear hb2)
                       (try clear hk)
                       (try clear hi)
                       refine hK.out _ _ ⟨HS0_, HS1_⟩ (fun hHeld => ?_)
                       clear hK K
                       refine norm_ (a' := ?_) ?_ ?_
                       rotate_left
                       ·show Act.put _ (some 85) _ = _
                        simp only [Act.put, List.setIfInBounds_toArray, List.set_cons_zero, List.set_cons_succ, i64_w, i32_w]
                        rfl
                       refine one_ (i := 8) (N := some 89) #[true, true, true, true, true, true, true, true, true, false, false, false, false, false, false] rfl rfl (one_of HT_.out (by kernel_rfl)) (by decide) (fun K hK => ?_)
                       refine goes_ Tryd.func29 (by kernel_rfl) rfl #[.string (rdOf ByteArray.empty x4_14 0), .int .i64 1, .int .i64 2] (by rfl) rfl rfl qa_ ?_
                       with_reducible refine (letterboxref11_digits.calls kj36 (rdOf ByteArray.empty x4_14 0) 1 2 t299 _ A47.out).mono ?_
                       rintro e w' ⟨rfl, ⟨nd, rfl⟩⟩
                       refine ⟨_, rfl, ?_⟩
                       refine hK.out _ _ ⟨hHeld.1, hHeld.2⟩ (fun hHeld => ?_)
                       clear hK K
                       refine norm_ (a' := ?_) ?_ ?_
                       rotate_left
                       ·show Act.put _ (some 89) _ = _
                        simp only [Act.put, List.setIfInBounds_toArray, List.set_cons_zero, List.set_cons_succ, i64_w, i32_w]
                        rfl
                       refine one_ (i := 9) (N := some 90) #[true, true, true, true, true, true, true, true, true, true, false, false, false, false, false] rfl rfl (one_of HT_.out (by kernel_rfl)) (by decide) (fun K hK => ?_)
                       refine goes_ Tryd.func32 (by kernel_rfl) rfl #[.int .i64 x5_33, .int .i64 t297, .int .i64 t299] (by rfl) rfl rfl qa_ ?_
                       with_reducible refine (letterboxref11_number.calls kj36 x5_33 t297 t299 t300 false _ A48.out).mono ?_
                       rintro e w' ⟨rfl, ⟨nd, rfl⟩⟩
                       refine ⟨_, rfl, ?_⟩
                       refine hK.out _ _ ⟨hHeld.1, hHeld.2⟩ (fun hHeld => ?_)
                       clear hK K
                       refine norm_ (a' := ?_) ?_ ?_
                       rotate_left
                       ·show Act.put _ (some 90) _ = _
                        simp only [Act.put, List.setIfInBounds_toArray, List.set_cons_zero, List.set_cons_succ, i64_w, i32_w]
                        rfl
                       refine pure_ (i := 10) (N := some 80) (v := ?_) (a' := ?_) #[true, true, true, true, true, true, true, true, true, true, true, false, false, false, false] rfl rfl (any_of HT_.out (by kernel_rfl)) (fun _ _ _ h => h) (Or.inl ⟨by rfl, ?_⟩) ?_ ?_
                       rotate_left
                       ·intro w'
                        go_simp
                        with_reducible rfl
                       rotate_left
                       ·simp only [Act.put, List.setIfInBounds_toArray, List.set_cons_zero, List.set_cons_succ, i64_w, i32_w]
                        rfl
                       refine pure_ (i := 11) (N := some 91) (v := ?_) (a' := ?_) #[true, true, true, true, true, true, true, true, true, true, true, true, false, false, false] rfl rfl (any_of HT_.out (by kernel_rfl)) (fun _ _ _ h => h) (Or.inl ⟨by rfl, ?_⟩) ?_ ?_
                       rotate_left
                       ·intro w'
                        go_simp
                        with_reducible rfl
                       rotate_left
                       ·simp only [Act.put, List.setIfInBounds_toArray, List.set_cons_zero, List.set_cons_succ, i64_w, i32_w]
                        rfl
                       refine pure_ (i := 12) (N := some 92) (v := ?_) (a' := ?_) #[true, true, true, true, true, true, true, true, true, true, true, true, true, false, false] rfl rfl (any_of HT_.out (by kernel_rfl)) (fun _ _ _ h => h) (Or.inl ⟨by rfl, ?_⟩) ?_ ?_
                       rotate_left
                       ·intro w'
                        go_simp
                        with_reducible rfl
                       rotate_left
                       ·simp only [Act.put, List.setIfInBounds_toArray, List.set_cons_zero, List.set_cons_succ, i64_w, i32_w]
                        rfl
                       refine pure_ (i := 13) (N := some 9) (v := ?_) (a' := ?_) #[true, true, true, true, true, true, true, true, true, true, true, true, true, true, false] rfl rfl (any_of HT_.out (by kernel_rfl)) (fun _ _ _ h => h) (Or.inl ⟨by rfl, ?_⟩) ?_ ?_
                       rotate_left
                       ·intro w'
                        go_simp
                        with_reducible rfl
                       rotate_left
                       ·simp only [Act.put, List.setIfInBounds_toArray, List.set_cons_zero, List.set_cons_succ, i64_w, i32_w]
                        rfl
                       refine pure_ (i := 14) (N := some 10) (v := ?_) (a' := ?_) #[true, true, true, true, true, true, true, true, true, true, true, true, true, true, true] rfl rfl (any_of HT_.out (by kernel_rfl)) (fun _ _ _ h => h) (Or.inl ⟨by rfl, ?_⟩) ?_ ?_
                       rotate_left
                       ·intro w'
                        go_simp
                        with_reducible rfl
                       rotate_left
                       ·simp only [Act.put, List.setIfInBounds_toArray, List.set_cons_zero, List.set_cons_succ, i64_w, i32_w]
                        rfl
                       refine done_ (done_of HT_.out (by kernel_rfl)) ?_
                       obtain ⟨hcz60_0, hcz60_1, hfz60_0, hfz60_1⟩ := cz2_ BK277.out
                       try go_wp2
                       refine bodyPost_ret (results_ct rfl _ _ gb277 27 #[.int .i64 0, .int .i64 0] (0, 0) _ rfl (qs2_ (qk_ BK277.out)) Tryd.underlying27 rfl (by kernel_rfl)) rfl ?_
                       exact ⟨qw_, qb_ HB.out⟩
                    ·replace c49 := Bool.eq_false_iff.mpr c49
                     subst c49
                     have H1 : (some (0, 0, false)) = some (r1, r2, r3) := by rw [if_neg (show ¬ (false = true) by decide)] at H; exact H
                     clear H
                     have H := H1
                     clear H1
                     simp only [Option.some.injEq, Prod.mk.injEq] at H
                     obtain ⟨rfl, rfl, rfl⟩ := H
                     have p294 : 0 ≤ (3 : Int) := (by omega)
                     have q294 : 3 < (x4_14.length : Int) := qd_
                     obtain ⟨ad294, e294, hx294_0⟩ := Kd.at_string (Kd.Q_reads' HO_4.out).2.2 3 p294 q294
                     obtain rfl : ad287 = ad294 := (by injection e294)
                     (try simp only [show (3 : Int).toNat = 3 from rfl, Nat.reduceMul, Nat.reduceEqDiff, Go.Addr.add, ↓reduceIte] at hx294_0)
                     have qi294 : (3 < x4_14.length) = True := eq_true (by omega)
                     (try rw [show ((3 : Int)).toNat = 3 from rfl] at hx294_0)
                     replace p294 := eq_true p294
                     replace q294 := eq_true q294
                     try go_wp2_with (first | ((with_reducible refine gate_callee (f := 31) rfl ?_); refine goesL_ (some 79) rfl rfl Tryd.func31 (by kernel_rfl) rfl #[.string (rdOf ByteArray.empty x4_14 3), .bool false, .int .i64 60] rfl qa_ ?_; (with_reducible refine (letterboxref11_clock.calls kj36 (rdOf ByteArray.empty x4_14 3) false 60 t295 _ A43.out).mono ?_); rintro e w' ⟨rfl, ⟨nd, rfl⟩⟩; refine ⟨_, rfl, ?_⟩; (try (rw [drewN_self wc]; generalize hq_ : World.drewN wc _ = wc; have n0_ : Aside0 (Kd.Q Kd.string 9 wc w.heap.size (fun _ => True) (.slice (some ad287) x4_14.length co29) x4_14) := ⟨by rw [← hq_]; exact (by (with_reducible repeat (first | apply Kd.Q_alloc | apply Kd.Q_drewN | apply Kd.Q_drew)); exact HO_4.out)⟩; have n1_ : Aside0 (wc.heap[gb277]? = some (.cells #[.int .i64 0, .int .i64 0] 27 (0, 0))) := ⟨by rw [← hq_]; exact (qk_ BK277.out)⟩; have n2_ : Aside0 (Below w.heap.size w wc) := ⟨by rw [← hq_]; exact (qb_ HB.out)⟩; clear HO_4 BK277 HB hq_; have HO_4 := n0_; have BK277 := n1_; have HB := n2_; clear n0_ n1_ n2_))))
                     have n0_ := Aside0.mk (Kd.Q_drew HO_4.out)
                     have n1_ := Aside0.mk (blk_drew BK277.out)
                     have n2_ := Aside0.mk (below_drew1 HB.out)
                     clear HO_4
                     clear BK277
                     clear HB
                     have HO_4 := n0_
                     have BK277 := n1_
                     have HB := n2_
                     clear n0_ n1_ n2_
                     have p296 : 0 ≤ (1 : Int) := (by omega)
                     have q296 : 1 < (x4_14.length : Int) := qd_
                     obtain ⟨ad296, e296, hx296_0⟩ := Kd.at_string (Kd.Q_reads' HO_4.out).2.2 1 p296 q296
                     obtain rfl : ad287 = ad296 := (by injection e296)
                     (try simp only [show (1 : Int).toNat = 1 from rfl, Nat.reduceMul, Nat.reduceEqDiff, Go.Addr.add, ↓reduceIte] at hx296_0)
                     have qi296 : (1 < x4_14.length) = True := eq_true (by omega)
                     (try rw [show ((1 : Int)).toNat = 1 from rfl] at hx296_0)
                     replace p296 := eq_true p296
                     replace q296 := eq_true q296
                     have p298 : 0 ≤ (0 : Int) := (by omega)
                     have q298 : 0 < (x4_14.length : Int) := qd_
                     obtain ⟨ad298, e298, hx298_0⟩ := Kd.at_string (Kd.Q_reads' HO_4.out).2.2 0 p298 q298
                     obtain rfl : ad287 = ad298 := (by injection e298)
                     have qi298 : (0 < x4_14.length) = True := eq_true (by omega)
                     (try rw [show ((0 : Int)).toNat = 0 from rfl] at hx298_0)
                     (try rw [Addr.add_zero'] at hx298_0)
                     replace p298 := eq_true p298
                     replace q298 := eq_true q298
                     refine start_ (n := 15) (S := fun w' => w'.cell? ⟨ad287.block, ad287.off + 1, none⟩ = some (.string (rdOf ByteArray.empty x4_14 1)) ∧ w'.cell? ad287 = some (.string (rdOf ByteArray.empty x4_14 0))) (ds := []) #[false, false, false, false, false, false, false, false, false, false, false, false, false, false, false] (by kernel_rfl) rfl rfl ⟨hx296_0, hx298_0⟩ (fun hHeld => ?_); refine with_tabW letterboxref11_Parse.tab18 letterboxref11_Parse.bits18 (fun HT_ HW_ => ?_)
                     generalize wc.drew = w61 at HO_4 BK277 HB hx296_0 hx298_0 hHeld ⊢
                     refine pure_ (i := 0) (N := some 81) (v := ?_) (a' := ?_) #[true, false, false, false, false, false, false, false, false, false, false, false, false, false, false] rfl rfl (any_of HT_.out (by kernel_rfl)) (fun _ _ _ h => h) (Or.inl ⟨by rfl, ?_⟩) ?_ ?_
                     rotate_left
                     ·intro w'
                      go_simp
                      with_reducible rfl
                     rotate_left
                     ·simp only [Act.put, List.setIfInBounds_toArray, List.set_cons_zero, List.set_cons_succ, i64_w, i32_w]
                      rfl
                     refine pure_ (i := 1) (N := some 82) (v := ?_) (a' := ?_) #[true, true, false, false, false, false, false, false, false, false, false, false, false, false, false] rfl rfl (any_of HT_.out (by kernel_rfl)) (fun _ _ _ h => h) (Or.inl ⟨by rfl, ?_⟩) ?_ ?_
                     rotate_left
                     ·intro w'
                      go_simp
                      with_reducible rfl
                     rotate_left
                     ·simp only [Act.put, List.setIfInBounds_toArray, List.set_cons_zero, List.set_cons_succ, i64_w, i32_w]
                      rfl
                     refine pure_ (i := 2) (N := some 83) (v := ?_) (a' := ?_) #[true, true, true, false, false, false, false, false, false, false, false, false, false, false, false] rfl rfl (any_of HT_.out (by kernel_rfl)) (fun _ _ _ h => h) (Or.inl ⟨by rfl, ?_⟩) ?_ ?_
                     rotate_left
                     ·intro w'
                      go_simp
                      with_reducible rfl
                     rotate_left
                     ·simp only [Act.put, List.setIfInBounds_toArray, List.set_cons_zero, List.set_cons_succ, i64_w, i32_w]
                      rfl
                     refine pure_ (i := 5) (N := some 86) (v := ?_) (a' := ?_) #[true, true, true, false, false, true, false, false, false, false, false, false, false, false, false] rfl rfl (any_of HT_.out (by kernel_rfl)) (fun _ _ _ h => h) (Or.inl ⟨by rfl, ?_⟩) ?_ ?_
                     rotate_left
                     ·intro w'
                      go_simp
                      with_reducible rfl
                     rotate_left
                     ·simp only [Act.put, List.setIfInBounds_toArray, List.set_cons_zero, List.set_cons_succ, i64_w, i32_w]
                      rfl
                     refine pure_ (i := 6) (N := some 87) (v := ?_) (a' := ?_) #[true, true, true, false, false, true, true, false, false, false, false, false, false, false, false] rfl rfl (any_of HT_.out (by kernel_rfl)) (fun _ _ _ h => h) (Or.inl ⟨by rfl, ?_⟩) ?_ ?_
                     rotate_left
                     ·intro w'
                      go_simp
                      with_reducible rfl
                     rotate_left
                     ·simp only [Act.put, List.setIfInBounds_toArray, List.set_cons_zero, List.set_cons_succ, i64_w, i32_w]
                      rfl
                     refine take_ (i := 3) (N := some 84) (v := ?_) (a' := ?_) #[true, true, true, true, false, true, true, false, false, false, false, false, false, false, false] rfl rfl (take_ofW HT_.out HW_.out (by kernel_rfl)) (fun _ _ _ h => h) (Or.inl ⟨by rfl, ?_⟩) hHeld ?_ ?_
                     rotate_left
                     ·rintro w' ⟨s0, s1⟩
                      go_simp
                      with_reducible rfl
                     rotate_left
                     ·simp only [Act.put, List.setIfInBounds_toArray, List.set_cons_zero, List.set_cons_succ, i64_w, i32_w]
                      rfl
                     refine take_ (i := 7) (N := some 88) (v := ?_) (a' := ?_) #[true, true, true, true, false, true, true, true, false, false, false, false, false, false, false] rfl rfl (take_ofW HT_.out HW_.out (by kernel_rfl)) (fun _ _ _ h => h) (Or.inl ⟨by rfl, ?_⟩) hHeld ?_ ?_
                     rotate_left
                     ·rintro w' ⟨s0, s1⟩
                      go_simp
                      with_reducible rfl
                     rotate_left
                     ·simp only [Act.put, List.setIfInBounds_toArray, List.set_cons_zero, List.set_cons_succ, i64_w, i32_w]
                      rfl
                     refine one_ (i := 4) (N := some 85) #[true, true, true, true, true, true, true, true, false, false, false, false, false, false, false] rfl rfl (one_of HT_.out (by kernel_rfl)) (by decide) (fun K hK => ?_)
                     refine goes_ Tryd.func33 (by kernel_rfl) rfl #[.string (rdOf ByteArray.empty x4_14 1)] (by rfl) rfl rfl qa_ ?_
                     with_reducible refine (letterboxref11_month.calls kj36 (rdOf ByteArray.empty x4_14 1) t297 _ A45.out).mono ?_
                     rintro e w62 ⟨rfl, hb⟩
                     have HS0_ := (hb.cell (World.block_lt_of_cell? _ _ (hHeld.1))).trans (hHeld.1)
                     have HS1_ := (hb.cell (World.block_lt_of_cell? _ _ (hHeld.2))).trans (hHeld.2)
                     refine ⟨_, rfl, ?_⟩
                     have n0_ := Aside0.mk (Kd.Q_below (by (with_reducible repeat (first | apply Kd.Q_alloc | apply Kd.Q_drewN | apply Kd.Q_drew)); exact HO_4.out) hb)
                     have n1_ := Aside0.mk (blk_below (g := gb277) (o := .cells #[.int .i64 0, .int .i64 0] 27 (0, 0)) (qk_ BK277.out) hb)
                     have n2_ := Aside0.mk (below_step (qb_ HB.out) hb)
                     clear HO_4
                     clear BK277
                     clear HB
                     have HO_4 := n0_
                     have BK277 := n1_
                     have HB := n2_
                     clear n0_ n1_ n2_
                     (try clear hb)
                     (try clear hb2)
                     (try clear hk)
                     (try clear hi)
                     refine hK.out _ _ ⟨HS0_, HS1_⟩ (fun hHeld => ?_)
                     clear hK K
                     refine norm_ (a' := ?_) ?_ ?_
                     rotate_left
                     ·show Act.put _ (some 85) _ = _
                      simp only [Act.put, List.setIfInBounds_toArray, List.set_cons_zero, List.set_cons_succ, i64_w, i32_w]
                      rfl
                     refine one_ (i := 8) (N := some 89) #[true, true, true, true, true, true, true, true, true, false, false, false, false, false, false] rfl rfl (one_of HT_.out (by kernel_rfl)) (by decide) (fun K hK => ?_)
                     refine goes_ Tryd.func29 (by kernel_rfl) rfl #[.string (rdOf ByteArray.empty x4_14 0), .int .i64 1, .int .i64 2] (by rfl) rfl rfl qa_ ?_
                     with_reducible refine (letterboxref11_digits.calls kj36 (rdOf ByteArray.empty x4_14 0) 1 2 t299 _ A47.out).mono ?_
                     rintro e w' ⟨rfl, ⟨nd, rfl⟩⟩
                     refine ⟨_, rfl, ?_⟩
                     refine hK.out _ _ ⟨hHeld.1, hHeld.2⟩ (fun hHeld => ?_)
                     clear hK K
                     refine norm_ (a' := ?_) ?_ ?_
                     rotate_left
                     ·show Act.put _ (some 89) _ = _
                      simp only [Act.put, List.setIfInBounds_toArray, List.set_cons_zero, List.set_cons_succ, i64_w, i32_w]
                      rfl
                     refine one_ (i := 9) (N := some 90) #[true, true, true, true, true, true, true, true, true, true, false, false, false, false, false] rfl rfl (one_of HT_.out (by kernel_rfl)) (by decide) (fun K hK => ?_)
                     refine goes_ Tryd.func32 (by kernel_rfl) rfl #[.int .i64 x5_33, .int .i64 t297, .int .i64 t299] (by rfl) rfl rfl qa_ ?_
                     with_reducible refine (letterboxref11_number.calls kj36 x5_33 t297 t299 t300 t301 _ A48.out).mono ?_
                     rintro e w' ⟨rfl, ⟨nd, rfl⟩⟩
                     refine ⟨_, rfl, ?_⟩
                     refine hK.out _ _ ⟨hHeld.1, hHeld.2⟩ (fun hHeld => ?_)
                     clear hK K
                     refine norm_ (a' := ?_) ?_ ?_
                     rotate_left
                     ·show Act.put _ (some 90) _ = _
                      simp only [Act.put, List.setIfInBounds_toArray, List.set_cons_zero, List.set_cons_succ, i64_w, i32_w]
                      rfl
                     refine pure_ (i := 10) (N := some 80) (v := ?_) (a' := ?_) #[true, true, true, true, true, true, true, true, true, true, true, false, false, false, false] rfl rfl (any_of HT_.out (by kernel_rfl)) (fun _ _ _ h => h) (Or.inl ⟨by rfl, ?_⟩) ?_ ?_
                     rotate_left
                     ·intro w'
                      go_simp
                      with_reducible rfl
                     rotate_left
                     ·simp only [Act.put, List.setIfInBounds_toArray, List.set_cons_zero, List.set_cons_succ, i64_w, i32_w]
                      rfl
                     refine pure_ (i := 11) (N := some 91) (v := ?_) (a' := ?_) #[true, true, true, true, true, true, true, true, true, true, true, true, false, false, false] rfl rfl (any_of HT_.out (by kernel_rfl)) (fun _ _ _ h => h) (Or.inl ⟨by rfl, ?_⟩) ?_ ?_
                     rotate_left
                     ·intro w'
                      go_simp
                      with_reducible rfl
                     rotate_left
                     ·simp only [Act.put, List.setIfInBounds_toArray, List.set_cons_zero, List.set_cons_succ, i64_w, i32_w]
                      rfl
                     refine pure_ (i := 12) (N := some 92) (v := ?_) (a' := ?_) #[true, true, true, true, true, true, true, true, true, true, true, true, true, false, false] rfl rfl (any_of HT_.out (by kernel_rfl)) (fun _ _ _ h => h) (Or.inl ⟨by rfl, ?_⟩) ?_ ?_
                     rotate_left
                     ·intro w'
                      go_simp
                      with_reducible rfl
                     rotate_left
                     ·simp only [Act.put, List.setIfInBounds_toArray, List.set_cons_zero, List.set_cons_succ, i64_w, i32_w]
                      rfl
                     refine pure_ (i := 13) (N := some 9) (v := ?_) (a' := ?_) #[true, true, true, true, true, true, true, true, true, true, true, true, true, true, false] rfl rfl (any_of HT_.out (by kernel_rfl)) (fun _ _ _ h => h) (Or.inl ⟨by rfl, ?_⟩) ?_ ?_
                     rotate_left
                     ·intro w'
                      go_simp
                      with_reducible rfl
                     rotate_left
                     ·simp only [Act.put, List.setIfInBounds_toArray, List.set_cons_zero, List.set_cons_succ, i64_w, i32_w]
                      rfl
                     refine pure_ (i := 14) (N := some 10) (v := ?_) (a' := ?_) #[true, true, true, true, true, true, true, true, true, true, true, true, true, true, true] rfl rfl (any_of HT_.out (by kernel_rfl)) (fun _ _ _ h => h) (Or.inl ⟨by rfl, ?_⟩) ?_ ?_
                     rotate_left
                     ·intro w'
                      go_simp
                      with_reducible rfl
                     rotate_left
                     ·simp only [Act.put, List.setIfInBounds_toArray, List.set_cons_zero, List.set_cons_succ, i64_w, i32_w]
                      rfl
                     refine done_ (done_of HT_.out (by kernel_rfl)) ?_
                     obtain ⟨hcz63_0, hcz63_1, hfz63_0, hfz63_1⟩ := cz2_ BK277.out
                     try go_wp2
                     refine bodyPost_ret (results_ct rfl _ _ gb277 27 #[.int .i64 0, .int .i64 0] (0, 0) _ rfl (qs2_ (qk_ BK277.out)) Tryd.underlying27 rfl (by kernel_rfl)) rfl ?_
                     exact ⟨qw_, qb_ HB.out⟩
                   ·rw [if_neg c46] at H
                    exact absurd H (by simp)
                  ·rw [if_neg c44] at H
                   exact absurd H (by simp)
                 ·rw [if_neg c42] at H
                  exact absurd H (by simp)
        ·rw [if_neg c26] at H
         exact absurd H (by simp)

end Go.Proofs.YtmbiggcapakjjaaDoor.P
