-- Written by a program of this session (wip/tools/mk.sh) for this claim: it runs the kit's print with contracts of our own. Lean checks it.
import Derived.Test.YtmbiggcapakjjaaDoorPx0
import Derived.Test.YtmbiggcapakjjaaDoorZSplit
import Derived.Test.YtmbiggcapakjjaaDoorPx11
namespace Go.Proofs.YtmbiggcapakjjaaDoor.P
open Go.RowKit Go.Proofs.YtmbiggcapakjjaaDoorW.PrintWords Go.Proofs.YtmbiggcapakjjaaDoorW.PrintLast Go.Proofs.YtmbiggcapakjjaaDoorW.PrintMore
attribute [-simp] Int.tmod_tmod_of_dvd
attribute [local go_sem] max2_int min2_int max_two min_two max_three min_three max_four min_four   -- for this text's walks alone
set_option linter.unusedVariables false
set_option linter.unusedSimpArgs false

/-! ### letterboxref11_Internal: function 15 -/
mutual
def letterboxref11_Internal.j0 : Nat → Bool → Int → Int → Option (ByteArray)
  | 0, _, _, _ => none
  | k + 1, x29, x251000, x251001 => if x29 = true then (some (⟨#[]⟩ : ByteArray)) else (if (Int.tmod (wrap64 (x251000 + (wrap64 (60 * x251001)))) 86400) < 0 then (letterboxref11_Internal.j1 k (wrap64 (x251000 + (wrap64 (60 * x251001)))) (wrap64 ((Int.tmod (wrap64 (x251000 + (wrap64 (60 * x251001)))) 86400) + 86400)) x251000 x251001) else (letterboxref11_Internal.j1 k (wrap64 (x251000 + (wrap64 (60 * x251001)))) (Int.tmod (wrap64 (x251000 + (wrap64 (60 * x251001)))) 86400) x251000 x251001))
def letterboxref11_Internal.j1 : Nat → Int → Int → Int → Int → Option (ByteArray)
  | 0, _, _, _, _ => none
  | k + 1, x3, x4, x251000, x251001 => letterboxref11_Internal.l0 k x4 (wrap64 (Int.tdiv (wrap64 (x3 - x4)) 86400)) 1970 x251000 x251001
def letterboxref11_Internal.j3 : Nat → Int → Int → Int → Int → Int → Option (ByteArray)
  | 0, _, _, _, _, _ => none
  | k + 1, x4, x5, x6, x251000, x251001 => letterboxref11_Internal.l1 k x4 x5 x6 x251000 x251001
def letterboxref11_Internal.j5 : Nat → Int → Int → Int → Int → Int → Option (ByteArray)
  | 0, _, _, _, _, _ => none
  | k + 1, x4, x5, x6, x251000, x251001 => if x6 < 1 then (letterboxref11_Internal.j6 k x4 x5 x6 true x251000 x251001) else (if x6 > 9999 then (letterboxref11_Internal.j6 k x4 x5 x6 true x251000 x251001) else (letterboxref11_Internal.j6 k x4 x5 x6 (decide (x5 < 0)) x251000 x251001))
def letterboxref11_Internal.j6 : Nat → Int → Int → Int → Bool → Int → Int → Option (ByteArray)
  | 0, _, _, _, _, _, _ => none
  | k + 1, x4, x5, x6, x81, x251000, x251001 => if x81 = true then (some (⟨#[]⟩ : ByteArray)) else (letterboxref11_Internal.l2 k x4 x5 x6 1 x251000 x251001)
def letterboxref11_Internal.l2 : Nat → Int → Int → Int → Int → Int → Int → Option (ByteArray)
  | 0, _, _, _, _, _, _ => none
  | k + 1, x4, x5, x6, x7, x251000, x251001 => (letterboxref11_days.f x6 x7).bind fun t254 => (if x5 ≥ t254 then ((letterboxref11_days.f x6 x7).bind fun t255 => (letterboxref11_Internal.l2 k x4 (wrap64 (x5 - t255)) x6 (wrap64 (x7 + 1)) x251000 x251001)) else ((letterboxref11_two.f (wrap64 (x5 + 1))).bind fun t256 => (if x5 < 9 then (if 1 ≤ (t256.size : Int) then (if 1 + (t256.extract 1 t256.size).size ≤ 9223372036854775807 then (letterboxref11_Internal.j8 k x4 x6 x7 ((⟨#[32]⟩ : ByteArray) ++ (t256.extract 1 t256.size)) x251000 x251001) else (none)) else (none)) else (letterboxref11_Internal.j8 k x4 x6 x7 t256 x251000 x251001))))
def letterboxref11_Internal.j8 : Nat → Int → Int → Int → ByteArray → Int → Int → Option (ByteArray)
  | 0, _, _, _, _, _, _ => none
  | k + 1, x4, x6, x7, x8, x251000, x251001 => if x251001 < 0 then (letterboxref11_Internal.j9 k x4 x6 x7 x8 (wrap64 (-x251001)) (⟨#[45]⟩ : ByteArray)) else (letterboxref11_Internal.j9 k x4 x6 x7 x8 x251001 (⟨#[43]⟩ : ByteArray))
def letterboxref11_Internal.j9 : Nat → Int → Int → Int → ByteArray → Int → ByteArray → Option (ByteArray)
  | 0, _, _, _, _, _, _ => none
  | k + 1, x4, x6, x7, x8, x9, x10 => if 1 + x8.size ≤ 9223372036854775807 then (if ((⟨#[34]⟩ : ByteArray) ++ x8).size + 1 ≤ 9223372036854775807 then ((letterboxref11_name.f x7).bind fun t257 => (if (((⟨#[34]⟩ : ByteArray) ++ x8) ++ (⟨#[45]⟩ : ByteArray)).size + t257.size ≤ 9223372036854775807 then (if ((((⟨#[34]⟩ : ByteArray) ++ x8) ++ (⟨#[45]⟩ : ByteArray)) ++ t257).size + 1 ≤ 9223372036854775807 then ((letterboxref11_two.f (wrap64 (Int.tdiv x6 100))).bind fun t258 => (if (((((⟨#[34]⟩ : ByteArray) ++ x8) ++ (⟨#[45]⟩ : ByteArray)) ++ t257) ++ (⟨#[45]⟩ : ByteArray)).size + t258.size ≤ 9223372036854775807 then ((letterboxref11_two.f (Int.tmod x6 100)).bind fun t259 => (if ((((((⟨#[34]⟩ : ByteArray) ++ x8) ++ (⟨#[45]⟩ : ByteArray)) ++ t257) ++ (⟨#[45]⟩ : ByteArray)) ++ t258).size + t259.size ≤ 9223372036854775807 then (if (((((((⟨#[34]⟩ : ByteArray) ++ x8) ++ (⟨#[45]⟩ : ByteArray)) ++ t257) ++ (⟨#[45]⟩ : ByteArray)) ++ t258) ++ t259).size + 1 ≤ 9223372036854775807 then ((letterboxref11_two.f (wrap64 (Int.tdiv x4 3600))).bind fun t260 => (if ((((((((⟨#[34]⟩ : ByteArray) ++ x8) ++ (⟨#[45]⟩ : ByteArray)) ++ t257) ++ (⟨#[45]⟩ : ByteArray)) ++ t258) ++ t259) ++ (⟨#[32]⟩ : ByteArray)).size + t260.size ≤ 9223372036854775807 then (if (((((((((⟨#[34]⟩ : ByteArray) ++ x8) ++ (⟨#[45]⟩ : ByteArray)) ++ t257) ++ (⟨#[45]⟩ : ByteArray)) ++ t258) ++ t259) ++ (⟨#[32]⟩ : ByteArray)) ++ t260).size + 1 ≤ 9223372036854775807 then ((letterboxref11_two.f (Int.tmod (wrap64 (Int.tdiv x4 60)) 60)).bind fun t261 => (if ((((((((((⟨#[34]⟩ : ByteArray) ++ x8) ++ (⟨#[45]⟩ : ByteArray)) ++ t257) ++ (⟨#[45]⟩ : ByteArray)) ++ t258) ++ t259) ++ (⟨#[32]⟩ : ByteArray)) ++ t260) ++ (⟨#[58]⟩ : ByteArray)).size + t261.size ≤ 9223372036854775807 then (if (((((((((((⟨#[34]⟩ : ByteArray) ++ x8) ++ (⟨#[45]⟩ : ByteArray)) ++ t257) ++ (⟨#[45]⟩ : ByteArray)) ++ t258) ++ t259) ++ (⟨#[32]⟩ : ByteArray)) ++ t260) ++ (⟨#[58]⟩ : ByteArray)) ++ t261).size + 1 ≤ 9223372036854775807 then ((letterboxref11_two.f (Int.tmod x4 60)).bind fun t262 => (if ((((((((((((⟨#[34]⟩ : ByteArray) ++ x8) ++ (⟨#[45]⟩ : ByteArray)) ++ t257) ++ (⟨#[45]⟩ : ByteArray)) ++ t258) ++ t259) ++ (⟨#[32]⟩ : ByteArray)) ++ t260) ++ (⟨#[58]⟩ : ByteArray)) ++ t261) ++ (⟨#[58]⟩ : ByteArray)).size + t262.size ≤ 9223372036854775807 then (if (((((((((((((⟨#[34]⟩ : ByteArray) ++ x8) ++ (⟨#[45]⟩ : ByteArray)) ++ t257) ++ (⟨#[45]⟩ : ByteArray)) ++ t258) ++ t259) ++ (⟨#[32]⟩ : ByteArray)) ++ t260) ++ (⟨#[58]⟩ : ByteArray)) ++ t261) ++ (⟨#[58]⟩ : ByteArray)) ++ t262).size + 1 ≤ 9223372036854775807 then (if ((((((((((((((⟨#[34]⟩ : ByteArray) ++ x8) ++ (⟨#[45]⟩ : ByteArray)) ++ t257) ++ (⟨#[45]⟩ : ByteArray)) ++ t258) ++ t259) ++ (⟨#[32]⟩ : ByteArray)) ++ t260) ++ (⟨#[58]⟩ : ByteArray)) ++ t261) ++ (⟨#[58]⟩ : ByteArray)) ++ t262) ++ (⟨#[32]⟩ : ByteArray)).size + x10.size ≤ 9223372036854775807 then ((letterboxref11_two.f (wrap64 (Int.tdiv x9 60))).bind fun t263 => (if (((((((((((((((⟨#[34]⟩ : ByteArray) ++ x8) ++ (⟨#[45]⟩ : ByteArray)) ++ t257) ++ (⟨#[45]⟩ : ByteArray)) ++ t258) ++ t259) ++ (⟨#[32]⟩ : ByteArray)) ++ t260) ++ (⟨#[58]⟩ : ByteArray)) ++ t261) ++ (⟨#[58]⟩ : ByteArray)) ++ t262) ++ (⟨#[32]⟩ : ByteArray)) ++ x10).size + t263.size ≤ 9223372036854775807 then ((letterboxref11_two.f (Int.tmod x9 60)).bind fun t264 => (if ((((((((((((((((⟨#[34]⟩ : ByteArray) ++ x8) ++ (⟨#[45]⟩ : ByteArray)) ++ t257) ++ (⟨#[45]⟩ : ByteArray)) ++ t258) ++ t259) ++ (⟨#[32]⟩ : ByteArray)) ++ t260) ++ (⟨#[58]⟩ : ByteArray)) ++ t261) ++ (⟨#[58]⟩ : ByteArray)) ++ t262) ++ (⟨#[32]⟩ : ByteArray)) ++ x10) ++ t263).size + t264.size ≤ 9223372036854775807 then (if (((((((((((((((((⟨#[34]⟩ : ByteArray) ++ x8) ++ (⟨#[45]⟩ : ByteArray)) ++ t257) ++ (⟨#[45]⟩ : ByteArray)) ++ t258) ++ t259) ++ (⟨#[32]⟩ : ByteArray)) ++ t260) ++ (⟨#[58]⟩ : ByteArray)) ++ t261) ++ (⟨#[58]⟩ : ByteArray)) ++ t262) ++ (⟨#[32]⟩ : ByteArray)) ++ x10) ++ t263) ++ t264).size + 1 ≤ 9223372036854775807 then (some ((((((((((((((((((⟨#[34]⟩ : ByteArray) ++ x8) ++ (⟨#[45]⟩ : ByteArray)) ++ t257) ++ (⟨#[45]⟩ : ByteArray)) ++ t258) ++ t259) ++ (⟨#[32]⟩ : ByteArray)) ++ t260) ++ (⟨#[58]⟩ : ByteArray)) ++ t261) ++ (⟨#[58]⟩ : ByteArray)) ++ t262) ++ (⟨#[32]⟩ : ByteArray)) ++ x10) ++ t263) ++ t264) ++ (⟨#[34]⟩ : ByteArray))) else (none)) else (none))) else (none))) else (none)) else (none)) else (none))) else (none)) else (none))) else (none)) else (none))) else (none)) else (none))) else (none))) else (none)) else (none))) else (none)) else (none)
def letterboxref11_Internal.l1 : Nat → Int → Int → Int → Int → Int → Option (ByteArray)
  | 0, _, _, _, _, _ => none
  | k + 1, x4, x5, x6, x251000, x251001 => if x6 ≤ 9999 then ((letterboxref11_year.f x6).bind fun t252 => (if x5 ≥ t252 then ((letterboxref11_year.f x6).bind fun t253 => (letterboxref11_Internal.l1 k x4 (wrap64 (x5 - t253)) (wrap64 (x6 + 1)) x251000 x251001)) else (letterboxref11_Internal.j5 k x4 x5 x6 x251000 x251001))) else (letterboxref11_Internal.j5 k x4 x5 x6 x251000 x251001)
def letterboxref11_Internal.l0 : Nat → Int → Int → Int → Int → Int → Option (ByteArray)
  | 0, _, _, _, _, _ => none
  | k + 1, x4, x5, x6, x251000, x251001 => if x5 < 0 then (if x6 ≥ 1 then ((letterboxref11_year.f (wrap64 (x6 - 1))).bind fun t251 => (letterboxref11_Internal.l0 k x4 (wrap64 (x5 + t251)) (wrap64 (x6 - 1)) x251000 x251001)) else (letterboxref11_Internal.j3 k x4 x5 x6 x251000 x251001)) else (letterboxref11_Internal.j3 k x4 x5 x6 x251000 x251001)
end
def letterboxref11_Internal.f (k : Nat) (a0_0 : Int) (a0_1 : Int) : Option (ByteArray) := if a0_1 ≤ (-1440) then (letterboxref11_Internal.j0 k true a0_0 a0_1) else (if a0_1 ≥ 1440 then (letterboxref11_Internal.j0 k true a0_0 a0_1) else (if a0_0 > 1099511627776 then (letterboxref11_Internal.j0 k true a0_0 a0_1) else (letterboxref11_Internal.j0 k (decide (a0_0 < (-1099511627776))) a0_0 a0_1)))
theorem letterboxref11_Internal.mono_l : ∀ k, (∀ y0 y1 y2, LeO (letterboxref11_Internal.j0 k y0 y1 y2) (letterboxref11_Internal.j0 (k + 1) y0 y1 y2)) ∧ (∀ y0 y1 y2 y3, LeO (letterboxref11_Internal.j1 k y0 y1 y2 y3) (letterboxref11_Internal.j1 (k + 1) y0 y1 y2 y3)) ∧ (∀ y0 y1 y2 y3 y4, LeO (letterboxref11_Internal.j3 k y0 y1 y2 y3 y4) (letterboxref11_Internal.j3 (k + 1) y0 y1 y2 y3 y4)) ∧ (∀ y0 y1 y2 y3 y4, LeO (letterboxref11_Internal.j5 k y0 y1 y2 y3 y4) (letterboxref11_Internal.j5 (k + 1) y0 y1 y2 y3 y4)) ∧ (∀ y0 y1 y2 y3 y4 y5, LeO (letterboxref11_Internal.j6 k y0 y1 y2 y3 y4 y5) (letterboxref11_Internal.j6 (k + 1) y0 y1 y2 y3 y4 y5)) ∧ (∀ y0 y1 y2 y3 y4 y5, LeO (letterboxref11_Internal.l2 k y0 y1 y2 y3 y4 y5) (letterboxref11_Internal.l2 (k + 1) y0 y1 y2 y3 y4 y5)) ∧ (∀ y0 y1 y2 y3 y4 y5, LeO (letterboxref11_Internal.j8 k y0 y1 y2 y3 y4 y5) (letterboxref11_Internal.j8 (k + 1) y0 y1 y2 y3 y4 y5)) ∧ (∀ y0 y1 y2 y3 y4 y5, LeO (letterboxref11_Internal.j9 k y0 y1 y2 y3 y4 y5) (letterboxref11_Internal.j9 (k + 1) y0 y1 y2 y3 y4 y5)) ∧ (∀ y0 y1 y2 y3 y4, LeO (letterboxref11_Internal.l1 k y0 y1 y2 y3 y4) (letterboxref11_Internal.l1 (k + 1) y0 y1 y2 y3 y4)) ∧ (∀ y0 y1 y2 y3 y4, LeO (letterboxref11_Internal.l0 k y0 y1 y2 y3 y4) (letterboxref11_Internal.l0 (k + 1) y0 y1 y2 y3 y4))
  | 0 => ⟨fun _ _ _ r h => by simp [letterboxref11_Internal.j0] at h, fun _ _ _ _ r h => by simp [letterboxref11_Internal.j1] at h, fun _ _ _ _ _ r h => by simp [letterboxref11_Internal.j3] at h, fun _ _ _ _ _ r h => by simp [letterboxref11_Internal.j5] at h, fun _ _ _ _ _ _ r h => by simp [letterboxref11_Internal.j6] at h, fun _ _ _ _ _ _ r h => by simp [letterboxref11_Internal.l2] at h, fun _ _ _ _ _ _ r h => by simp [letterboxref11_Internal.j8] at h, fun _ _ _ _ _ _ r h => by simp [letterboxref11_Internal.j9] at h, fun _ _ _ _ _ r h => by simp [letterboxref11_Internal.l1] at h, fun _ _ _ _ _ r h => by simp [letterboxref11_Internal.l0] at h⟩
  | k + 1 => by
    obtain ⟨ih0, ih1, ih2, ih3, ih4, ih5, ih6, ih7, ih8, ih9⟩ := letterboxref11_Internal.mono_l k
    refine ⟨?_, ?_, ?_, ?_, ?_, ?_, ?_, ?_, ?_, ?_⟩
    · intro y0 y1 y2
      unfold letterboxref11_Internal.j0
      repeat' first
      | (with_reducible exact ih0 _ _ _)
      | (with_reducible exact ih1 _ _ _ _)
      | (with_reducible exact ih2 _ _ _ _ _)
      | (with_reducible exact ih3 _ _ _ _ _)
      | (with_reducible exact ih4 _ _ _ _ _ _)
      | (with_reducible exact ih5 _ _ _ _ _ _)
      | (with_reducible exact ih6 _ _ _ _ _ _)
      | (with_reducible exact ih7 _ _ _ _ _ _)
      | (with_reducible exact ih8 _ _ _ _ _)
      | (with_reducible exact ih9 _ _ _ _ _)
      | (with_reducible exact LeO.refl _)
      | (with_reducible exact LeO.none _)
      | (with_reducible refine LeO.ite ?_ ?_)
      | (with_reducible refine LeO.bind ?_ (fun _ => ?_))
      | exact ih0 _ _ _
      | exact ih1 _ _ _ _
      | exact ih2 _ _ _ _ _
      | exact ih3 _ _ _ _ _
      | exact ih4 _ _ _ _ _ _
      | exact ih5 _ _ _ _ _ _
      | exact ih6 _ _ _ _ _ _
      | exact ih7 _ _ _ _ _ _
      | exact ih8 _ _ _ _ _
      | exact ih9 _ _ _ _ _
      | exact LeO.none _
      | refine LeO.ite ?_ ?_
      | refine LeO.bind ?_ (fun _ => ?_)
    · intro y0 y1 y2 y3
      unfold letterboxref11_Internal.j1
      repeat' first
      | (with_reducible exact ih0 _ _ _)
      | (with_reducible exact ih1 _ _ _ _)
      | (with_reducible exact ih2 _ _ _ _ _)
      | (with_reducible exact ih3 _ _ _ _ _)
      | (with_reducible exact ih4 _ _ _ _ _ _)
      | (with_reducible exact ih5 _ _ _ _ _ _)
      | (with_reducible exact ih6 _ _ _ _ _ _)
      | (with_reducible exact ih7 _ _ _ _ _ _)
      | (with_reducible exact ih8 _ _ _ _ _)
      | (with_reducible exact ih9 _ _ _ _ _)
      | (with_reducible exact LeO.refl _)
      | (with_reducible exact LeO.none _)
      | (with_reducible refine LeO.ite ?_ ?_)
      | (with_reducible refine LeO.bind ?_ (fun _ => ?_))
      | exact ih0 _ _ _
      | exact ih1 _ _ _ _
      | exact ih2 _ _ _ _ _
      | exact ih3 _ _ _ _ _
      | exact ih4 _ _ _ _ _ _
      | exact ih5 _ _ _ _ _ _
      | exact ih6 _ _ _ _ _ _
      | exact ih7 _ _ _ _ _ _
      | exact ih8 _ _ _ _ _
      | exact ih9 _ _ _ _ _
      | exact LeO.none _
      | refine LeO.ite ?_ ?_
      | refine LeO.bind ?_ (fun _ => ?_)
    · intro y0 y1 y2 y3 y4
      unfold letterboxref11_Internal.j3
      repeat' first
      | (with_reducible exact ih0 _ _ _)
      | (with_reducible exact ih1 _ _ _ _)
      | (with_reducible exact ih2 _ _ _ _ _)
      | (with_reducible exact ih3 _ _ _ _ _)
      | (with_reducible exact ih4 _ _ _ _ _ _)
      | (with_reducible exact ih5 _ _ _ _ _ _)
      | (with_reducible exact ih6 _ _ _ _ _ _)
      | (with_reducible exact ih7 _ _ _ _ _ _)
      | (with_reducible exact ih8 _ _ _ _ _)
      | (with_reducible exact ih9 _ _ _ _ _)
      | (with_reducible exact LeO.refl _)
      | (with_reducible exact LeO.none _)
      | (with_reducible refine LeO.ite ?_ ?_)
      | (with_reducible refine LeO.bind ?_ (fun _ => ?_))
      | exact ih0 _ _ _
      | exact ih1 _ _ _ _
      | exact ih2 _ _ _ _ _
      | exact ih3 _ _ _ _ _
      | exact ih4 _ _ _ _ _ _
      | exact ih5 _ _ _ _ _ _
      | exact ih6 _ _ _ _ _ _
      | exact ih7 _ _ _ _ _ _
      | exact ih8 _ _ _ _ _
      | exact ih9 _ _ _ _ _
      | exact LeO.none _
      | refine LeO.ite ?_ ?_
      | refine LeO.bind ?_ (fun _ => ?_)
    · intro y0 y1 y2 y3 y4
      unfold letterboxref11_Internal.j5
      repeat' first
      | (with_reducible exact ih0 _ _ _)
      | (with_reducible exact ih1 _ _ _ _)
      | (with_reducible exact ih2 _ _ _ _ _)
      | (with_reducible exact ih3 _ _ _ _ _)
      | (with_reducible exact ih4 _ _ _ _ _ _)
      | (with_reducible exact ih5 _ _ _ _ _ _)
      | (with_reducible exact ih6 _ _ _ _ _ _)
      | (with_reducible exact ih7 _ _ _ _ _ _)
      | (with_reducible exact ih8 _ _ _ _ _)
      | (with_reducible exact ih9 _ _ _ _ _)
      | (with_reducible exact LeO.refl _)
      | (with_reducible exact LeO.none _)
      | (with_reducible refine LeO.ite ?_ ?_)
      | (with_reducible refine LeO.bind ?_ (fun _ => ?_))
      | exact ih0 _ _ _
      | exact ih1 _ _ _ _
      | exact ih2 _ _ _ _ _
      | exact ih3 _ _ _ _ _
      | exact ih4 _ _ _ _ _ _
      | exact ih5 _ _ _ _ _ _
      | exact ih6 _ _ _ _ _ _
      | exact ih7 _ _ _ _ _ _
      | exact ih8 _ _ _ _ _
      | exact ih9 _ _ _ _ _
      | exact LeO.none _
      | refine LeO.ite ?_ ?_
      | refine LeO.bind ?_ (fun _ => ?_)
    · intro y0 y1 y2 y3 y4 y5
      unfold letterboxref11_Internal.j6
      repeat' first
      | (with_reducible exact ih0 _ _ _)
      | (with_reducible exact ih1 _ _ _ _)
      | (with_reducible exact ih2 _ _ _ _ _)
      | (with_reducible exact ih3 _ _ _ _ _)
      | (with_reducible exact ih4 _ _ _ _ _ _)
      | (with_reducible exact ih5 _ _ _ _ _ _)
      | (with_reducible exact ih6 _ _ _ _ _ _)
      | (with_reducible exact ih7 _ _ _ _ _ _)
      | (with_reducible exact ih8 _ _ _ _ _)
      | (with_reducible exact ih9 _ _ _ _ _)
      | (with_reducible exact LeO.refl _)
      | (with_reducible exact LeO.none _)
      | (with_reducible refine LeO.ite ?_ ?_)
      | (with_reducible refine LeO.bind ?_ (fun _ => ?_))
      | exact ih0 _ _ _
      | exact ih1 _ _ _ _
      | exact ih2 _ _ _ _ _
      | exact ih3 _ _ _ _ _
      | exact ih4 _ _ _ _ _ _
      | exact ih5 _ _ _ _ _ _
      | exact ih6 _ _ _ _ _ _
      | exact ih7 _ _ _ _ _ _
      | exact ih8 _ _ _ _ _
      | exact ih9 _ _ _ _ _
      | exact LeO.none _
      | refine LeO.ite ?_ ?_
      | refine LeO.bind ?_ (fun _ => ?_)
    · intro y0 y1 y2 y3 y4 y5
      unfold letterboxref11_Internal.l2
      repeat' first
      | (with_reducible exact ih0 _ _ _)
      | (with_reducible exact ih1 _ _ _ _)
      | (with_reducible exact ih2 _ _ _ _ _)
      | (with_reducible exact ih3 _ _ _ _ _)
      | (with_reducible exact ih4 _ _ _ _ _ _)
      | (with_reducible exact ih5 _ _ _ _ _ _)
      | (with_reducible exact ih6 _ _ _ _ _ _)
      | (with_reducible exact ih7 _ _ _ _ _ _)
      | (with_reducible exact ih8 _ _ _ _ _)
      | (with_reducible exact ih9 _ _ _ _ _)
      | (with_reducible exact LeO.refl _)
      | (with_reducible exact LeO.none _)
      | (with_reducible refine LeO.ite ?_ ?_)
      | (with_reducible refine LeO.bind ?_ (fun _ => ?_))
      | exact ih0 _ _ _
      | exact ih1 _ _ _ _
      | exact ih2 _ _ _ _ _
      | exact ih3 _ _ _ _ _
      | exact ih4 _ _ _ _ _ _
      | exact ih5 _ _ _ _ _ _
      | exact ih6 _ _ _ _ _ _
      | exact ih7 _ _ _ _ _ _
      | exact ih8 _ _ _ _ _
      | exact ih9 _ _ _ _ _
      | exact LeO.none _
      | refine LeO.ite ?_ ?_
      | refine LeO.bind ?_ (fun _ => ?_)
    · intro y0 y1 y2 y3 y4 y5
      unfold letterboxref11_Internal.j8
      repeat' first
      | (with_reducible exact ih0 _ _ _)
      | (with_reducible exact ih1 _ _ _ _)
      | (with_reducible exact ih2 _ _ _ _ _)
      | (with_reducible exact ih3 _ _ _ _ _)
      | (with_reducible exact ih4 _ _ _ _ _ _)
      | (with_reducible exact ih5 _ _ _ _ _ _)
      | (with_reducible exact ih6 _ _ _ _ _ _)
      | (with_reducible exact ih7 _ _ _ _ _ _)
      | (with_reducible exact ih8 _ _ _ _ _)
      | (with_reducible exact ih9 _ _ _ _ _)
      | (with_reducible exact LeO.refl _)
      | (with_reducible exact LeO.none _)
      | (with_reducible refine LeO.ite ?_ ?_)
      | (with_reducible refine LeO.bind ?_ (fun _ => ?_))
      | exact ih0 _ _ _
      | exact ih1 _ _ _ _
      | exact ih2 _ _ _ _ _
      | exact ih3 _ _ _ _ _
      | exact ih4 _ _ _ _ _ _
      | exact ih5 _ _ _ _ _ _
      | exact ih6 _ _ _ _ _ _
      | exact ih7 _ _ _ _ _ _
      | exact ih8 _ _ _ _ _
      | exact ih9 _ _ _ _ _
      | exact LeO.none _
      | refine LeO.ite ?_ ?_
      | refine LeO.bind ?_ (fun _ => ?_)
    · intro y0 y1 y2 y3 y4 y5
      unfold letterboxref11_Internal.j9
      repeat' first
      | (with_reducible exact ih0 _ _ _)
      | (with_reducible exact ih1 _ _ _ _)
      | (with_reducible exact ih2 _ _ _ _ _)
      | (with_reducible exact ih3 _ _ _ _ _)
      | (with_reducible exact ih4 _ _ _ _ _ _)
      | (with_reducible exact ih5 _ _ _ _ _ _)
      | (with_reducible exact ih6 _ _ _ _ _ _)
      | (with_reducible exact ih7 _ _ _ _ _ _)
      | (with_reducible exact ih8 _ _ _ _ _)
      | (with_reducible exact ih9 _ _ _ _ _)
      | (with_reducible exact LeO.refl _)
      | (with_reducible exact LeO.none _)
      | (with_reducible refine LeO.ite ?_ ?_)
      | (with_reducible refine LeO.bind ?_ (fun _ => ?_))
      | exact ih0 _ _ _
      | exact ih1 _ _ _ _
      | exact ih2 _ _ _ _ _
      | exact ih3 _ _ _ _ _
      | exact ih4 _ _ _ _ _ _
      | exact ih5 _ _ _ _ _ _
      | exact ih6 _ _ _ _ _ _
      | exact ih7 _ _ _ _ _ _
      | exact ih8 _ _ _ _ _
      | exact ih9 _ _ _ _ _
      | exact LeO.none _
      | refine LeO.ite ?_ ?_
      | refine LeO.bind ?_ (fun _ => ?_)
    · intro y0 y1 y2 y3 y4
      unfold letterboxref11_Internal.l1
      repeat' first
      | (with_reducible exact ih0 _ _ _)
      | (with_reducible exact ih1 _ _ _ _)
      | (with_reducible exact ih2 _ _ _ _ _)
      | (with_reducible exact ih3 _ _ _ _ _)
      | (with_reducible exact ih4 _ _ _ _ _ _)
      | (with_reducible exact ih5 _ _ _ _ _ _)
      | (with_reducible exact ih6 _ _ _ _ _ _)
      | (with_reducible exact ih7 _ _ _ _ _ _)
      | (with_reducible exact ih8 _ _ _ _ _)
      | (with_reducible exact ih9 _ _ _ _ _)
      | (with_reducible exact LeO.refl _)
      | (with_reducible exact LeO.none _)
      | (with_reducible refine LeO.ite ?_ ?_)
      | (with_reducible refine LeO.bind ?_ (fun _ => ?_))
      | exact ih0 _ _ _
      | exact ih1 _ _ _ _
      | exact ih2 _ _ _ _ _
      | exact ih3 _ _ _ _ _
      | exact ih4 _ _ _ _ _ _
      | exact ih5 _ _ _ _ _ _
      | exact ih6 _ _ _ _ _ _
      | exact ih7 _ _ _ _ _ _
      | exact ih8 _ _ _ _ _
      | exact ih9 _ _ _ _ _
      | exact LeO.none _
      | refine LeO.ite ?_ ?_
      | refine LeO.bind ?_ (fun _ => ?_)
    · intro y0 y1 y2 y3 y4
      unfold letterboxref11_Internal.l0
      repeat' first
      | (with_reducible exact ih0 _ _ _)
      | (with_reducible exact ih1 _ _ _ _)
      | (with_reducible exact ih2 _ _ _ _ _)
      | (with_reducible exact ih3 _ _ _ _ _)
      | (with_reducible exact ih4 _ _ _ _ _ _)
      | (with_reducible exact ih5 _ _ _ _ _ _)
      | (with_reducible exact ih6 _ _ _ _ _ _)
      | (with_reducible exact ih7 _ _ _ _ _ _)
      | (with_reducible exact ih8 _ _ _ _ _)
      | (with_reducible exact ih9 _ _ _ _ _)
      | (with_reducible exact LeO.refl _)
      | (with_reducible exact LeO.none _)
      | (with_reducible refine LeO.ite ?_ ?_)
      | (with_reducible refine LeO.bind ?_ (fun _ => ?_))
      | exact ih0 _ _ _
      | exact ih1 _ _ _ _
      | exact ih2 _ _ _ _ _
      | exact ih3 _ _ _ _ _
      | exact ih4 _ _ _ _ _ _
      | exact ih5 _ _ _ _ _ _
      | exact ih6 _ _ _ _ _ _
      | exact ih7 _ _ _ _ _ _
      | exact ih8 _ _ _ _ _
      | exact ih9 _ _ _ _ _
      | exact LeO.none _
      | refine LeO.ite ?_ ?_
      | refine LeO.bind ?_ (fun _ => ?_)
theorem letterboxref11_Internal.mono : ∀ a0 a1 k, LeO (letterboxref11_Internal.f k a0 a1) (letterboxref11_Internal.f (k + 1) a0 a1) := by
  intro a0 a1 k
  obtain ⟨ih0, ih1, ih2, ih3, ih4, ih5, ih6, ih7, ih8, ih9⟩ := letterboxref11_Internal.mono_l k
  unfold letterboxref11_Internal.f
  repeat' first
      | (with_reducible exact ih0 _ _ _)
      | (with_reducible exact ih1 _ _ _ _)
      | (with_reducible exact ih2 _ _ _ _ _)
      | (with_reducible exact ih3 _ _ _ _ _)
      | (with_reducible exact ih4 _ _ _ _ _ _)
      | (with_reducible exact ih5 _ _ _ _ _ _)
      | (with_reducible exact ih6 _ _ _ _ _ _)
      | (with_reducible exact ih7 _ _ _ _ _ _)
      | (with_reducible exact ih8 _ _ _ _ _)
      | (with_reducible exact ih9 _ _ _ _ _)
      | (with_reducible exact LeO.refl _)
      | (with_reducible exact LeO.none _)
      | (with_reducible refine LeO.ite ?_ ?_)
      | (with_reducible refine LeO.bind ?_ (fun _ => ?_))
      | exact ih0 _ _ _
      | exact ih1 _ _ _ _
      | exact ih2 _ _ _ _ _
      | exact ih3 _ _ _ _ _
      | exact ih4 _ _ _ _ _ _
      | exact ih5 _ _ _ _ _ _
      | exact ih6 _ _ _ _ _ _
      | exact ih7 _ _ _ _ _ _
      | exact ih8 _ _ _ _ _
      | exact ih9 _ _ _ _ _
      | exact LeO.none _
      | refine LeO.ite ?_ ?_
      | refine LeO.bind ?_ (fun _ => ?_)
set_option maxHeartbeats 8000000 in
set_option maxRecDepth 100000 in
theorem letterboxref11_Internal.calls (k : Nat) (a0_0 : Int) (a0_1 : Int) (r : ByteArray) (w : World) (h : letterboxref11_Internal.f k a0_0 a0_1 = some r) :
    Calls Tryd.prog 15 #[.agg #[.int .i64 a0_0, .int .i64 a0_1]] w fun e w' => e = .returned (.string r) ∧ Below w.heap.size w w' := by
  have hu27 := Tryd.underlying27
  have HB := Aside0.mk (Below.refl w.heap.size w)
  have H : (if a0_1 ≤ (-1440) then (letterboxref11_Internal.j0 k true a0_0 a0_1) else (if a0_1 ≥ 1440 then (letterboxref11_Internal.j0 k true a0_0 a0_1) else (if a0_0 > 1099511627776 then (letterboxref11_Internal.j0 k true a0_0 a0_1) else (letterboxref11_Internal.j0 k (decide (a0_0 < (-1099511627776))) a0_0 a0_1)))) = some r := h
  clear h
  have HC2 := Aside0.mk H
  clear H
  go_enter Tryd.func15, Tryd.ntmps15
  go_upto_region 1 with (first | ((with_reducible refine gate_dst (N := 1) rfl ?_); refine box_event ?hg (N := 1) ?hd (cs := #[.int .i64 a0_0, .int .i64 a0_1]) (t := 27) ?hr ?_; (case hd => rfl); (case hg => rfl); (case hr => first | (go_simp; done) | (go_simp; rfl)); intro gb250 hg w3 hbox hb; have n0_ := Aside0.mk (below_step (by repeat (first | (with_reducible first | exact HB.out | apply below_alloc | apply pw_below_drewN | apply below_drew1) | exact HB.out)) hb); have n1_ := Aside0.mk (hbox); have n2_ := Aside0.mk ((by rw [hg]; exact (below_size (by repeat (first | (with_reducible first | exact HB.out | apply below_alloc | apply pw_below_drewN | apply below_drew1) | exact HB.out))) : w.heap.size ≤ gb250)); have n3_ := Aside0.mk ((by rw [hg]; exact (below_size (by repeat (first | (with_reducible first | exact HB.out | apply below_alloc | apply pw_below_drewN | apply below_drew1) | exact HB.out))) : w.heap.size ≤ gb250)); clear HB; have HB := n0_; have BK250 := n1_; have GW250 := n2_; have GE250 := n3_; clear n0_ n1_ n2_ n3_; clear hb hbox hg))
  (try simp only [Act.put, List.setIfInBounds_toArray, List.set_cons_zero, List.set_cons_succ])
  go_cut [29] (fun v29 wc => ∃ (kq : Nat) (x29_1 : Bool), v29 = .bool x29_1 ∧ Aside0 (letterboxref11_Internal.j0 kq x29_1 a0_0 a0_1 = some r) ∧ Aside0 (kq ≤ k) ∧ Aside0 (wc.heap[gb250]? = some (.cells #[.int .i64 a0_0, .int .i64 a0_1] 27 (0, 0))) ∧ Aside0 (Below w.heap.size w wc))
  case first =>
    have H := HC2.out
    clear HC2
    by_cases c4 : a0_1 ≤ (-1440)
    · rw [if_pos c4] at H
      have c4b0 : decide (a0_1 ≤ (-1440)) = true := decide_eq_true c4
      clear c4
      (first | rw [c4b0] | (simp only [i64_w, i32_w]; rw [c4b0]) | skip)
      have H' := Aside0.mk H
      clear H
      have hcz5_0 : w3.cell? ⟨gb250, 0, none⟩ = some (.int .i64 a0_0) := (blk_cell BK250.out 0).trans rfl
      have hcz5_1 : w3.cell? ⟨gb250, 1, none⟩ = some (.int .i64 a0_1) := (blk_cell BK250.out 1).trans rfl
      have hfz5_0 := blk_frozen BK250.out 0
      have hfz5_1 := blk_frozen BK250.out 1
      go_wp2
      go_meet
      case rel => exact ⟨_, (true), (by first | rfl | (simp; done) | (simp [*]; done)), H', ⟨by first | omega | exact Nat.le_refl _⟩, ⟨by (with_reducible repeat (first | refine blk_drewN ?_ _ | refine blk_drew ?_ | refine blk_alloc ?_ _)); exact BK250.out⟩, ⟨by repeat (first | (with_reducible first | exact HB.out | apply below_alloc | apply pw_below_drewN | apply below_drew1 | refine below_set ?_ GE250.out) | exact HB.out)⟩⟩
    · rw [if_neg c4] at H
      have c4b0 : decide (a0_1 ≤ (-1440)) = false := decide_eq_false c4
      clear c4
      (first | rw [c4b0] | (simp only [i64_w, i32_w]; rw [c4b0]) | skip)
      by_cases c6 : a0_1 ≥ 1440
      · rw [if_pos c6] at H
        have c6b0 : decide (1440 ≤ a0_1) = true := decide_eq_true c6
        clear c6
        have H' := Aside0.mk H
        clear H
        have hcz7_0 : w3.cell? ⟨gb250, 0, none⟩ = some (.int .i64 a0_0) := (blk_cell BK250.out 0).trans rfl
        have hcz7_1 : w3.cell? ⟨gb250, 1, none⟩ = some (.int .i64 a0_1) := (blk_cell BK250.out 1).trans rfl
        have hfz7_0 := blk_frozen BK250.out 0
        have hfz7_1 := blk_frozen BK250.out 1
        go_wp2
        go_meet
        case rel => exact ⟨_, (true), (by first | rfl | (simp; done) | (simp [*]; done)), H', ⟨by first | omega | exact Nat.le_refl _⟩, ⟨by (with_reducible repeat (first | refine blk_drewN ?_ _ | refine blk_drew ?_ | refine blk_alloc ?_ _)); exact BK250.out⟩, ⟨by repeat (first | (with_reducible first | exact HB.out | apply below_alloc | apply pw_below_drewN | apply below_drew1 | refine below_set ?_ GE250.out) | exact HB.out)⟩⟩
      · rw [if_neg c6] at H
        have c6b0 : decide (1440 ≤ a0_1) = false := decide_eq_false c6
        clear c6
        by_cases c8 : a0_0 > 1099511627776
        · rw [if_pos c8] at H
          have c8b0 : decide (1099511627776 < a0_0) = true := decide_eq_true c8
          clear c8
          have H' := Aside0.mk H
          clear H
          have hcz9_0 : w3.cell? ⟨gb250, 0, none⟩ = some (.int .i64 a0_0) := (blk_cell BK250.out 0).trans rfl
          have hcz9_1 : w3.cell? ⟨gb250, 1, none⟩ = some (.int .i64 a0_1) := (blk_cell BK250.out 1).trans rfl
          have hfz9_0 := blk_frozen BK250.out 0
          have hfz9_1 := blk_frozen BK250.out 1
          go_wp2
          go_meet
          case rel => exact ⟨_, (true), (by first | rfl | (simp; done) | (simp [*]; done)), H', ⟨by first | omega | exact Nat.le_refl _⟩, ⟨by (with_reducible repeat (first | refine blk_drewN ?_ _ | refine blk_drew ?_ | refine blk_alloc ?_ _)); exact BK250.out⟩, ⟨by repeat (first | (with_reducible first | exact HB.out | apply below_alloc | apply pw_below_drewN | apply below_drew1 | refine below_set ?_ GE250.out) | exact HB.out)⟩⟩
        · rw [if_neg c8] at H
          have c8b0 : decide (1099511627776 < a0_0) = false := decide_eq_false c8
          clear c8
          have H' := Aside0.mk H
          clear H
          have hcz10_0 : w3.cell? ⟨gb250, 0, none⟩ = some (.int .i64 a0_0) := (blk_cell BK250.out 0).trans rfl
          have hcz10_1 : w3.cell? ⟨gb250, 1, none⟩ = some (.int .i64 a0_1) := (blk_cell BK250.out 1).trans rfl
          have hfz10_0 := blk_frozen BK250.out 0
          have hfz10_1 := blk_frozen BK250.out 1
          go_wp2
          go_meet
          case rel => exact ⟨_, (decide (a0_0 < (-1099511627776))), (by first | rfl | (simp; done) | (simp [*]; done)), H', ⟨by first | omega | exact Nat.le_refl _⟩, ⟨by (with_reducible repeat (first | refine blk_drewN ?_ _ | refine blk_drew ?_ | refine blk_alloc ?_ _)); exact BK250.out⟩, ⟨by repeat (first | (with_reducible first | exact HB.out | apply below_alloc | apply pw_below_drewN | apply below_drew1 | refine below_set ?_ GE250.out) | exact HB.out)⟩⟩
  case rest =>
    clear HC2
    try clear c1
    try clear p2
    try clear c4
    try clear c4b0
    try clear c6
    try clear c6b0
    try clear c8
    try clear c8b0
    try clear hcz10_0
    try clear hcz10_1
    try clear hcz5_0
    try clear hcz5_1
    try clear hcz7_0
    try clear hcz7_1
    try clear hcz9_0
    try clear hcz9_1
    try clear hfz10_0
    try clear hfz10_1
    try clear hfz5_0
    try clear hfz5_1
    try clear hfz7_0
    try clear hfz7_1
    try clear hfz9_0
    try clear hfz9_1
    obtain ⟨kq, x29_1, rfl, HA, HJ1, BK250, HB⟩ := hcut
    cases kq with
    | zero => exact absurd HA.out (by simp [letterboxref11_Internal.j0])
    | succ kj1 =>
      have H := HA.out
      clear HA
      simp only [letterboxref11_Internal.j0] at H
      by_cases c11 : x29_1 = true
      · subst c11
        have H1 : (some (⟨#[]⟩ : ByteArray)) = some r := by rw [if_pos rfl] at H; exact H
        clear H
        have H := H1
        clear H1
        obtain rfl := Option.some.inj H
        go_wp2
        go_ret
        exact ⟨by first | rfl | (simp [errW_none, errW_some] <;> rfl) | (simp [*, errW_none, errW_some] <;> rfl), by repeat (first | (with_reducible first | exact HB.out | apply below_alloc | apply pw_below_drewN | apply below_drew1 | refine below_set ?_ GE250.out) | exact HB.out)⟩
      · replace c11 := Bool.eq_false_iff.mpr c11
        subst c11
        have H1 : (if (Int.tmod (wrap64 (a0_0 + (wrap64 (60 * a0_1)))) 86400) < 0 then (letterboxref11_Internal.j1 kj1 (wrap64 (a0_0 + (wrap64 (60 * a0_1)))) (wrap64 ((Int.tmod (wrap64 (a0_0 + (wrap64 (60 * a0_1)))) 86400) + 86400)) a0_0 a0_1) else (letterboxref11_Internal.j1 kj1 (wrap64 (a0_0 + (wrap64 (60 * a0_1)))) (Int.tmod (wrap64 (a0_0 + (wrap64 (60 * a0_1)))) 86400) a0_0 a0_1)) = some r := by rw [if_neg (show ¬ (false = true) by decide)] at H; exact H
        clear H
        have H := H1
        clear H1
        have HC12 := Aside0.mk H
        clear H
        have hcz13_0 : wc.cell? ⟨gb250, 0, none⟩ = some (.int .i64 a0_0) := (blk_cell BK250.out 0).trans rfl
        have hcz13_1 : wc.cell? ⟨gb250, 1, none⟩ = some (.int .i64 a0_1) := (blk_cell BK250.out 1).trans rfl
        have hfz13_0 := blk_frozen BK250.out 0
        have hfz13_1 := blk_frozen BK250.out 1
        go_upto_if 39 with (fail)
        go_cut [4] (fun v4 wc => ∃ (kq : Nat) (x4_11 : Int), v4 = .int .i64 x4_11 ∧ Aside0 (letterboxref11_Internal.j1 kq (wrap64 (a0_0 + (wrap64 (60 * a0_1)))) x4_11 a0_0 a0_1 = some r) ∧ Aside0 (kq ≤ kj1) ∧ Aside0 (wc.heap[gb250]? = some (.cells #[.int .i64 a0_0, .int .i64 a0_1] 27 (0, 0))) ∧ Aside0 (Below w.heap.size w wc))
        case first =>
          have H := HC12.out
          clear HC12
          by_cases c14 : (Int.tmod (wrap64 (a0_0 + (wrap64 (60 * a0_1)))) 86400) < 0
          · rw [if_pos c14] at H
            have c14b0 : decide ((Int.tmod (wrap64 (a0_0 + (wrap64 (60 * a0_1)))) 86400) < 0) = true := decide_eq_true c14
            clear c14
            (first | rw [c14b0] | (simp only [i64_w, i32_w]; rw [c14b0]) | skip)
            have H' := Aside0.mk H
            clear H
            go_wp2
            go_meet
            case rel => exact ⟨_, (wrap64 ((Int.tmod (wrap64 (a0_0 + (wrap64 (60 * a0_1)))) 86400) + 86400)), (by first | rfl | (simp; done) | (simp [*]; done)), H', ⟨by have := HJ1.out; first | omega | exact Nat.le_refl _⟩, ⟨by (with_reducible repeat (first | refine blk_drewN ?_ _ | refine blk_drew ?_ | refine blk_alloc ?_ _)); exact BK250.out⟩, ⟨by repeat (first | (with_reducible first | exact HB.out | apply below_alloc | apply pw_below_drewN | apply below_drew1 | refine below_set ?_ GE250.out) | exact HB.out)⟩⟩
          · rw [if_neg c14] at H
            have c14b0 : decide ((Int.tmod (wrap64 (a0_0 + (wrap64 (60 * a0_1)))) 86400) < 0) = false := decide_eq_false c14
            clear c14
            (first | rw [c14b0] | (simp only [i64_w, i32_w]; rw [c14b0]) | skip)
            have H' := Aside0.mk H
            clear H
            go_wp2
            go_meet
            case rel => exact ⟨_, (Int.tmod (wrap64 (a0_0 + (wrap64 (60 * a0_1)))) 86400), (by first | rfl | (simp; done) | (simp [*]; done)), H', ⟨by have := HJ1.out; first | omega | exact Nat.le_refl _⟩, ⟨by (with_reducible repeat (first | refine blk_drewN ?_ _ | refine blk_drew ?_ | refine blk_alloc ?_ _)); exact BK250.out⟩, ⟨by repeat (first | (with_reducible first | exact HB.out | apply below_alloc | apply pw_below_drewN | apply below_drew1 | refine below_set ?_ GE250.out) | exact HB.out)⟩⟩
        case rest =>
          clear HC12
          try clear c1
          try clear p2
          try clear c4
          try clear c4b0
          try clear c6
          try clear c6b0
          try clear p6
          try clear c8
          try clear c8b0
          try clear c11
          try clear c14
          try clear c14b0
          try clear hcz10_0
          try clear hcz10_1
          try clear hcz13_0
          try clear hcz13_1
          try clear hcz5_0
          try clear hcz5_1
          try clear hcz7_0
          try clear hcz7_1
          try clear hcz9_0
          try clear hcz9_1
          try clear hfz10_0
          try clear hfz10_1
          try clear hfz13_0
          try clear hfz13_1
          try clear hfz5_0
          try clear hfz5_1
          try clear hfz7_0
          try clear hfz7_1
          try clear hfz9_0
          try clear hfz9_1
          try clear p2
          obtain ⟨kq, x4_11, rfl, HA, HJ11, BK250, HB⟩ := hcut
          cases kq with
          | zero => exact absurd HA.out (by simp [letterboxref11_Internal.j1])
          | succ kj11 =>
            have H := HA.out
            clear HA
            simp only [letterboxref11_Internal.j1] at H
            have HC15 := Aside0.mk H
            clear H
            go_upto_block 0 with (fail)
            go_cut [5, 6] (fun v5 v6 wc => ∃ (kq : Nat) (x5_14 : Int) (x6_14 : Int), v5 = .int .i64 x5_14 ∧ v6 = .int .i64 x6_14 ∧ Aside0 (letterboxref11_Internal.j3 kq x4_11 x5_14 x6_14 a0_0 a0_1 = some r) ∧ Aside0 (kq ≤ kj11) ∧ Aside0 (wc.heap[gb250]? = some (.cells #[.int .i64 a0_0, .int .i64 a0_1] 27 (0, 0))) ∧ Aside0 (Below w.heap.size w wc))
            case first =>
              have H := HC15.out
              clear HC15
              have H' := Aside0.mk H
              clear H
              go_wp2
              go_loopg [5, 6] kj11 (fun kq v5 v6 w' => ∃ (x5_3 : Int) (x6_3 : Int), v5 = .int .i64 x5_3 ∧ v6 = .int .i64 x6_3 ∧ Aside0 (letterboxref11_Internal.l0 kq x4_11 x5_3 x6_3 a0_0 a0_1 = some r) ∧ Aside0 (kq ≤ kj11) ∧ Aside0 (w'.heap[gb250]? = some (.cells #[.int .i64 a0_0, .int .i64 a0_1] 27 (0, 0))) ∧ Aside0 (Below w.heap.size w w'))
              case atStart => exact ⟨(wrap64 (Int.tdiv (wrap64 ((wrap64 (a0_0 + (wrap64 (60 * a0_1)))) - x4_11)) 86400)), (1970), (by first | rfl | (simp; done) | (simp [*]; done)), (by first | rfl | (simp; done) | (simp [*]; done)), H', ⟨Nat.le_refl _⟩, ⟨by (with_reducible repeat (first | refine blk_drewN ?_ _ | refine blk_drew ?_ | refine blk_alloc ?_ _)); exact BK250.out⟩, ⟨by repeat (first | (with_reducible first | exact HB.out | apply below_alloc | apply pw_below_drewN | apply below_drew1 | refine below_set ?_ GE250.out) | exact HB.out)⟩⟩
              case round =>
                clear H'
                try clear c1
                try clear p2
                try clear c4
                try clear c4b0
                try clear c6
                try clear c6b0
                try clear p6
                try clear c8
                try clear c8b0
                try clear c11
                try clear c14
                try clear c14b0
                try clear c15
                try clear hcz10_0
                try clear hcz10_1
                try clear hcz13_0
                try clear hcz13_1
                try clear hcz5_0
                try clear hcz5_1
                try clear hcz7_0
                try clear hcz7_1
                try clear hcz9_0
                try clear hcz9_1
                try clear hfz10_0
                try clear hfz10_1
                try clear hfz13_0
                try clear hfz13_1
                try clear hfz5_0
                try clear hfz5_1
                try clear hfz7_0
                try clear hfz7_1
                try clear hfz9_0
                try clear hfz9_1
                try clear p2
                try clear p6
                obtain ⟨x5_3, x6_3, rfl, rfl, HA, HK3, BK250, HB⟩ := hrel
                cases gk with
                | zero => exact absurd HA.out (by simp [letterboxref11_Internal.l0])
                | succ k3 =>
                  have H := HA.out
                  clear HA
                  simp only [letterboxref11_Internal.l0] at H
                  by_cases c16 : x5_3 < 0
                  · rw [if_pos c16] at H
                    have c16b0 : decide (x5_3 < 0) = true := decide_eq_true c16
                    clear c16
                    (first | rw [c16b0] | (simp only [i64_w, i32_w]; rw [c16b0]) | skip)
                    by_cases c17 : x6_3 ≥ 1
                    · rw [if_pos c17] at H
                      have c17b0 : decide (1 ≤ x6_3) = true := decide_eq_true c17
                      clear c17
                      replace H := Option.bind_eq_some_iff.mp H
                      obtain ⟨t251, A180, H⟩ := H
                      replace H : (letterboxref11_Internal.l0 k3 x4_11 (wrap64 (x5_3 + t251)) (wrap64 (x6_3 - 1)) a0_0 a0_1) = some r := H
                      have A18 := Aside0.mk A180
                      clear A180
                      have H' := Aside0.mk H
                      clear H
                      go_wp2_with (first | ((with_reducible refine gate_callee (f := 42) rfl ?_); refine goesL_ (some 56) rfl rfl Tryd.func42 (by kernel_rfl) rfl #[.int .i64 (wrap64 (x6_3 - 1))] rfl (by (try simp only [List.map_toArray, List.map_cons, List.map_nil]); first | done | rfl | (simp only [List.length_drop, List.length_take]; rfl)) ?_; (with_reducible refine (letterboxref11_year.calls (wrap64 (x6_3 - 1)) t251 _ A18.out).mono ?_); rintro e w' ⟨rfl, ⟨nd, rfl⟩⟩; refine ⟨_, rfl, ?_⟩))
                      go_roundg k3
                      case measure => have := HJ1.out; have := HJ11.out; have := HK3.out; omega
                      case rel => exact ⟨(wrap64 (x5_3 + t251)), (wrap64 (x6_3 - 1)), (by first | rfl | (simp; done) | (simp [*]; done)), (by first | rfl | (simp; done) | (simp [*]; done)), H', ⟨by have := HJ1.out; have := HJ11.out; have := HK3.out; omega⟩, ⟨by (with_reducible repeat (first | refine blk_drewN ?_ _ | refine blk_drew ?_ | refine blk_alloc ?_ _)); exact BK250.out⟩, ⟨by repeat (first | (with_reducible first | exact HB.out | apply below_alloc | apply pw_below_drewN | apply below_drew1 | refine below_set ?_ GE250.out) | exact HB.out)⟩⟩
                    · rw [if_neg c17] at H
                      have c17b0 : decide (1 ≤ x6_3) = false := decide_eq_false c17
                      clear c17
                      have H' := Aside0.mk H
                      clear H
                      go_wp2
                      go_meet
                      case rel => exact ⟨_, (x5_3), (x6_3), (by first | rfl | (simp; done) | (simp [*]; done)), (by first | rfl | (simp; done) | (simp [*]; done)), H', ⟨by have := HJ1.out; have := HJ11.out; have := HK3.out; first | omega | exact Nat.le_refl _⟩, ⟨by (with_reducible repeat (first | refine blk_drewN ?_ _ | refine blk_drew ?_ | refine blk_alloc ?_ _)); exact BK250.out⟩, ⟨by repeat (first | (with_reducible first | exact HB.out | apply below_alloc | apply pw_below_drewN | apply below_drew1 | refine below_set ?_ GE250.out) | exact HB.out)⟩⟩
                  · rw [if_neg c16] at H
                    have c16b0 : decide (x5_3 < 0) = false := decide_eq_false c16
                    clear c16
                    (first | rw [c16b0] | (simp only [i64_w, i32_w]; rw [c16b0]) | skip)
                    have H' := Aside0.mk H
                    clear H
                    go_wp2
                    go_meet
                    case rel => exact ⟨_, (x5_3), (x6_3), (by first | rfl | (simp; done) | (simp [*]; done)), (by first | rfl | (simp; done) | (simp [*]; done)), H', ⟨by have := HJ1.out; have := HJ11.out; have := HK3.out; first | omega | exact Nat.le_refl _⟩, ⟨by (with_reducible repeat (first | refine blk_drewN ?_ _ | refine blk_drew ?_ | refine blk_alloc ?_ _)); exact BK250.out⟩, ⟨by repeat (first | (with_reducible first | exact HB.out | apply below_alloc | apply pw_below_drewN | apply below_drew1 | refine below_set ?_ GE250.out) | exact HB.out)⟩⟩
            case rest =>
              clear HC15
              try clear c1
              try clear p2
              try clear c4
              try clear c4b0
              try clear c6
              try clear c6b0
              try clear p6
              try clear c8
              try clear c8b0
              try clear c11
              try clear c14
              try clear c14b0
              try clear c15
              try clear c16
              try clear c16b0
              try clear c17
              try clear c17b0
              try clear hcz10_0
              try clear hcz10_1
              try clear hcz13_0
              try clear hcz13_1
              try clear hcz5_0
              try clear hcz5_1
              try clear hcz7_0
              try clear hcz7_1
              try clear hcz9_0
              try clear hcz9_1
              try clear hfz10_0
              try clear hfz10_1
              try clear hfz13_0
              try clear hfz13_1
              try clear hfz5_0
              try clear hfz5_1
              try clear hfz7_0
              try clear hfz7_1
              try clear hfz9_0
              try clear hfz9_1
              try clear p2
              try clear p6
              obtain ⟨kq, x5_14, x6_14, rfl, rfl, HA, HJ14, BK250, HB⟩ := hcut
              cases kq with
              | zero => exact absurd HA.out (by simp [letterboxref11_Internal.j3])
              | succ kj14 =>
                have H := HA.out
                clear HA
                simp only [letterboxref11_Internal.j3] at H
                have HC19 := Aside0.mk H
                clear H
                go_upto_block 2 with (fail)
                go_cut [5, 6] (fun v5 v6 wc => ∃ (kq : Nat) (x5_18 : Int) (x6_18 : Int), v5 = .int .i64 x5_18 ∧ v6 = .int .i64 x6_18 ∧ Aside0 (letterboxref11_Internal.j5 kq x4_11 x5_18 x6_18 a0_0 a0_1 = some r) ∧ Aside0 (kq ≤ kj14) ∧ Aside0 (wc.heap[gb250]? = some (.cells #[.int .i64 a0_0, .int .i64 a0_1] 27 (0, 0))) ∧ Aside0 (Below w.heap.size w wc))
                case first =>
                  have H := HC19.out
                  clear HC19
                  have H' := Aside0.mk H
                  clear H
                  go_wp2
                  go_loopg [5, 6] kj14 (fun kq v5 v6 w' => ∃ (x5_4 : Int) (x6_4 : Int), v5 = .int .i64 x5_4 ∧ v6 = .int .i64 x6_4 ∧ Aside0 (letterboxref11_Internal.l1 kq x4_11 x5_4 x6_4 a0_0 a0_1 = some r) ∧ Aside0 (kq ≤ kj14) ∧ Aside0 (w'.heap[gb250]? = some (.cells #[.int .i64 a0_0, .int .i64 a0_1] 27 (0, 0))) ∧ Aside0 (Below w.heap.size w w'))
                  case atStart => exact ⟨(x5_14), (x6_14), (by first | rfl | (simp; done) | (simp [*]; done)), (by first | rfl | (simp; done) | (simp [*]; done)), H', ⟨Nat.le_refl _⟩, ⟨by (with_reducible repeat (first | refine blk_drewN ?_ _ | refine blk_drew ?_ | refine blk_alloc ?_ _)); exact BK250.out⟩, ⟨by repeat (first | (with_reducible first | exact HB.out | apply below_alloc | apply pw_below_drewN | apply below_drew1 | refine below_set ?_ GE250.out) | exact HB.out)⟩⟩
                  case round =>
                    clear H'
                    try clear c1
                    try clear p2
                    try clear c4
                    try clear c4b0
                    try clear c6
                    try clear c6b0
                    try clear p6
                    try clear c8
                    try clear c8b0
                    try clear c11
                    try clear c14
                    try clear c14b0
                    try clear c15
                    try clear c16
                    try clear c16b0
                    try clear c17
                    try clear c17b0
                    try clear hcz10_0
                    try clear hcz10_1
                    try clear hcz13_0
                    try clear hcz13_1
                    try clear hcz5_0
                    try clear hcz5_1
                    try clear hcz7_0
                    try clear hcz7_1
                    try clear hcz9_0
                    try clear hcz9_1
                    try clear hfz10_0
                    try clear hfz10_1
                    try clear hfz13_0
                    try clear hfz13_1
                    try clear hfz5_0
                    try clear hfz5_1
                    try clear hfz7_0
                    try clear hfz7_1
                    try clear hfz9_0
                    try clear hfz9_1
                    try clear p2
                    try clear p6
                    obtain ⟨x5_4, x6_4, rfl, rfl, HA, HK4, BK250, HB⟩ := hrel
                    cases gk with
                    | zero => exact absurd HA.out (by simp [letterboxref11_Internal.l1])
                    | succ k4 =>
                      have H := HA.out
                      clear HA
                      simp only [letterboxref11_Internal.l1] at H
                      by_cases c20 : x6_4 ≤ 9999
                      · rw [if_pos c20] at H
                        have c20b0 : decide (x6_4 ≤ 9999) = true := decide_eq_true c20
                        clear c20
                        (first | rw [c20b0] | (simp only [i64_w, i32_w]; rw [c20b0]) | skip)
                        replace H := Option.bind_eq_some_iff.mp H
                        obtain ⟨t252, A210, H⟩ := H
                        replace H : (if x5_4 ≥ t252 then ((letterboxref11_year.f x6_4).bind fun t253 => (letterboxref11_Internal.l1 k4 x4_11 (wrap64 (x5_4 - t253)) (wrap64 (x6_4 + 1)) a0_0 a0_1)) else (letterboxref11_Internal.j5 k4 x4_11 x5_4 x6_4 a0_0 a0_1)) = some r := H
                        have A21 := Aside0.mk A210
                        clear A210
                        by_cases c22 : x5_4 ≥ t252
                        · rw [if_pos c22] at H
                          have c22b0 : decide (t252 ≤ x5_4) = true := decide_eq_true c22
                          clear c22
                          replace H := Option.bind_eq_some_iff.mp H
                          obtain ⟨t253, A230, H⟩ := H
                          replace H : (letterboxref11_Internal.l1 k4 x4_11 (wrap64 (x5_4 - t253)) (wrap64 (x6_4 + 1)) a0_0 a0_1) = some r := H
                          have A23 := Aside0.mk A230
                          clear A230
                          have H' := Aside0.mk H
                          clear H
                          go_wp2_with (first | (go_at_call 42; (with_reducible refine (letterboxref11_year.calls x6_4 t252 _ A21.out).mono ?_); rintro e w' ⟨rfl, ⟨nd, rfl⟩⟩) | ((with_reducible refine gate_callee (f := 42) rfl ?_); refine goesL_ (some 68) rfl rfl Tryd.func42 (by kernel_rfl) rfl #[.int .i64 x6_4] rfl (by (try simp only [List.map_toArray, List.map_cons, List.map_nil]); first | done | rfl | (simp only [List.length_drop, List.length_take]; rfl)) ?_; (with_reducible refine (letterboxref11_year.calls x6_4 t253 _ A23.out).mono ?_); rintro e w' ⟨rfl, ⟨nd, rfl⟩⟩; refine ⟨_, rfl, ?_⟩))
                          go_roundg k4
                          case measure => have := HJ1.out; have := HJ11.out; have := HJ14.out; have := HK4.out; omega
                          case rel => exact ⟨(wrap64 (x5_4 - t253)), (wrap64 (x6_4 + 1)), (by first | rfl | (simp; done) | (simp [*]; done)), (by first | rfl | (simp; done) | (simp [*]; done)), H', ⟨by have := HJ1.out; have := HJ11.out; have := HJ14.out; have := HK4.out; omega⟩, ⟨by (with_reducible repeat (first | refine blk_drewN ?_ _ | refine blk_drew ?_ | refine blk_alloc ?_ _)); exact BK250.out⟩, ⟨by repeat (first | (with_reducible first | exact HB.out | apply below_alloc | apply pw_below_drewN | apply below_drew1 | refine below_set ?_ GE250.out) | exact HB.out)⟩⟩
                        · rw [if_neg c22] at H
                          have c22b0 : decide (t252 ≤ x5_4) = false := decide_eq_false c22
                          clear c22
                          have H' := Aside0.mk H
                          clear H
                          go_wp2_with (first | (go_at_call 42; (with_reducible refine (letterboxref11_year.calls x6_4 t252 _ A21.out).mono ?_); rintro e w' ⟨rfl, ⟨nd, rfl⟩⟩))
                          go_meet
                          case rel => exact ⟨_, (x5_4), (x6_4), (by first | rfl | (simp; done) | (simp [*]; done)), (by first | rfl | (simp; done) | (simp [*]; done)), H', ⟨by have := HJ1.out; have := HJ11.out; have := HJ14.out; have := HK4.out; first | omega | exact Nat.le_refl _⟩, ⟨by (with_reducible repeat (first | refine blk_drewN ?_ _ | refine blk_drew ?_ | refine blk_alloc ?_ _)); exact BK250.out⟩, ⟨by repeat (first | (with_reducible first | exact HB.out | apply below_alloc | apply pw_below_drewN | apply below_drew1 | refine below_set ?_ GE250.out) | exact HB.out)⟩⟩
                      · rw [if_neg c20] at H
                        have c20b0 : decide (x6_4 ≤ 9999) = false := decide_eq_false c20
                        clear c20
                        (first | rw [c20b0] | (simp only [i64_w, i32_w]; rw [c20b0]) | skip)
                        have H' := Aside0.mk H
                        clear H
                        go_wp2
                        go_meet
                        case rel => exact ⟨_, (x5_4), (x6_4), (by first | rfl | (simp; done) | (simp [*]; done)), (by first | rfl | (simp; done) | (simp [*]; done)), H', ⟨by have := HJ1.out; have := HJ11.out; have := HJ14.out; have := HK4.out; first | omega | exact Nat.le_refl _⟩, ⟨by (with_reducible repeat (first | refine blk_drewN ?_ _ | refine blk_drew ?_ | refine blk_alloc ?_ _)); exact BK250.out⟩, ⟨by repeat (first | (with_reducible first | exact HB.out | apply below_alloc | apply pw_below_drewN | apply below_drew1 | refine below_set ?_ GE250.out) | exact HB.out)⟩⟩
                case rest =>
                  clear HC19
                  try clear c1
                  try clear c2
                  try clear p2
                  try clear c4
                  try clear c4b0
                  try clear c6
                  try clear c6b0
                  try clear p6
                  try clear c8
                  try clear c8b0
                  try clear c11
                  try clear c14
                  try clear c14b0
                  try clear c15
                  try clear c16
                  try clear c16b0
                  try clear c17
                  try clear c17b0
                  try clear c20
                  try clear c20b0
                  try clear c22
                  try clear c22b0
                  try clear hcz10_0
                  try clear hcz10_1
                  try clear hcz13_0
                  try clear hcz13_1
                  try clear hcz5_0
                  try clear hcz5_1
                  try clear hcz7_0
                  try clear hcz7_1
                  try clear hcz9_0
                  try clear hcz9_1
                  try clear hfz10_0
                  try clear hfz10_1
                  try clear hfz13_0
                  try clear hfz13_1
                  try clear hfz5_0
                  try clear hfz5_1
                  try clear hfz7_0
                  try clear hfz7_1
                  try clear hfz9_0
                  try clear hfz9_1
                  try clear p2
                  try clear p6
                  obtain ⟨kq, x5_18, x6_18, rfl, rfl, HA, HJ18, BK250, HB⟩ := hcut
                  cases kq with
                  | zero => exact absurd HA.out (by simp [letterboxref11_Internal.j5])
                  | succ kj18 =>
                    have H := HA.out
                    clear HA
                    simp only [letterboxref11_Internal.j5] at H
                    have HC24 := Aside0.mk H
                    clear H
                    go_upto_region 15 with (fail)
                    go_cut [81] (fun v81 wc => ∃ (kq : Nat) (x81_23 : Bool), v81 = .bool x81_23 ∧ Aside0 (letterboxref11_Internal.j6 kq x4_11 x5_18 x6_18 x81_23 a0_0 a0_1 = some r) ∧ Aside0 (kq ≤ kj18) ∧ Aside0 (wc.heap[gb250]? = some (.cells #[.int .i64 a0_0, .int .i64 a0_1] 27 (0, 0))) ∧ Aside0 (Below w.heap.size w wc))
                    case first =>
                      have H := HC24.out
                      clear HC24
                      by_cases c25 : x6_18 < 1
                      · rw [if_pos c25] at H
                        have c25b0 : decide (x6_18 < 1) = true := decide_eq_true c25
                        clear c25
                        (first | rw [c25b0] | (simp only [i64_w, i32_w]; rw [c25b0]) | skip)
                        have H' := Aside0.mk H
                        clear H
                        go_wp2
                        go_meet
                        case rel => exact ⟨_, (true), (by first | rfl | (simp; done) | (simp [*]; done)), H', ⟨by have := HJ1.out; have := HJ11.out; have := HJ14.out; have := HJ18.out; first | omega | exact Nat.le_refl _⟩, ⟨by (with_reducible repeat (first | refine blk_drewN ?_ _ | refine blk_drew ?_ | refine blk_alloc ?_ _)); exact BK250.out⟩, ⟨by repeat (first | (with_reducible first | exact HB.out | apply below_alloc | apply pw_below_drewN | apply below_drew1 | refine below_set ?_ GE250.out) | exact HB.out)⟩⟩
                      · rw [if_neg c25] at H
                        have c25b0 : decide (x6_18 < 1) = false := decide_eq_false c25
                        clear c25
                        (first | rw [c25b0] | (simp only [i64_w, i32_w]; rw [c25b0]) | skip)
                        by_cases c26 : x6_18 > 9999
                        · rw [if_pos c26] at H
                          have c26b0 : decide (9999 < x6_18) = true := decide_eq_true c26
                          clear c26
                          have H' := Aside0.mk H
                          clear H
                          go_wp2
                          go_meet
                          case rel => exact ⟨_, (true), (by first | rfl | (simp; done) | (simp [*]; done)), H', ⟨by have := HJ1.out; have := HJ11.out; have := HJ14.out; have := HJ18.out; first | omega | exact Nat.le_refl _⟩, ⟨by (with_reducible repeat (first | refine blk_drewN ?_ _ | refine blk_drew ?_ | refine blk_alloc ?_ _)); exact BK250.out⟩, ⟨by repeat (first | (with_reducible first | exact HB.out | apply below_alloc | apply pw_below_drewN | apply below_drew1 | refine below_set ?_ GE250.out) | exact HB.out)⟩⟩
                        · rw [if_neg c26] at H
                          have c26b0 : decide (9999 < x6_18) = false := decide_eq_false c26
                          clear c26
                          have H' := Aside0.mk H
                          clear H
                          go_wp2
                          go_meet
                          case rel => exact ⟨_, (decide (x5_18 < 0)), (by first | rfl | (simp; done) | (simp [*]; done)), H', ⟨by have := HJ1.out; have := HJ11.out; have := HJ14.out; have := HJ18.out; first | omega | exact Nat.le_refl _⟩, ⟨by (with_reducible repeat (first | refine blk_drewN ?_ _ | refine blk_drew ?_ | refine blk_alloc ?_ _)); exact BK250.out⟩, ⟨by repeat (first | (with_reducible first | exact HB.out | apply below_alloc | apply pw_below_drewN | apply below_drew1 | refine below_set ?_ GE250.out) | exact HB.out)⟩⟩
                    case rest =>
                      clear HC24
                      try clear c1
                      try clear c2
                      try clear p2
                      try clear c4
                      try clear c4b0
                      try clear c6
                      try clear c6b0
                      try clear p6
                      try clear c8
                      try clear c8b0
                      try clear c11
                      try clear c14
                      try clear c14b0
                      try clear c15
                      try clear c16
                      try clear c16b0
                      try clear c17
                      try clear c17b0
                      try clear c20
                      try clear c20b0
                      try clear c22
                      try clear c22b0
                      try clear c25
                      try clear c25b0
                      try clear c26
                      try clear c26b0
                      try clear hcz10_0
                      try clear hcz10_1
                      try clear hcz13_0
                      try clear hcz13_1
                      try clear hcz5_0
                      try clear hcz5_1
                      try clear hcz7_0
                      try clear hcz7_1
                      try clear hcz9_0
                      try clear hcz9_1
                      try clear hfz10_0
                      try clear hfz10_1
                      try clear hfz13_0
                      try clear hfz13_1
                      try clear hfz5_0
                      try clear hfz5_1
                      try clear hfz7_0
                      try clear hfz7_1
                      try clear hfz9_0
                      try clear hfz9_1
                      try clear p2
                      try clear p6
                      obtain ⟨kq, x81_23, rfl, HA, HJ23, BK250, HB⟩ := hcut
                      cases kq with
                      | zero => exact absurd HA.out (by simp [letterboxref11_Internal.j6])
                      | succ kj23 =>
                        have H := HA.out
                        clear HA
                        simp only [letterboxref11_Internal.j6] at H
                        by_cases c27 : x81_23 = true
                        · subst c27
                          have H1 : (some (⟨#[]⟩ : ByteArray)) = some r := by rw [if_pos rfl] at H; exact H
                          clear H
                          have H := H1
                          clear H1
                          obtain rfl := Option.some.inj H
                          go_wp2
                          go_ret
                          exact ⟨by first | rfl | (simp [errW_none, errW_some] <;> rfl) | (simp [*, errW_none, errW_some] <;> rfl), by repeat (first | (with_reducible first | exact HB.out | apply below_alloc | apply pw_below_drewN | apply below_drew1 | refine below_set ?_ GE250.out) | exact HB.out)⟩
                        · replace c27 := Bool.eq_false_iff.mpr c27
                          subst c27
                          have H1 : (letterboxref11_Internal.l2 kj23 x4_11 x5_18 x6_18 1 a0_0 a0_1) = some r := by rw [if_neg (show ¬ (false = true) by decide)] at H; exact H
                          clear H
                          have H := H1
                          clear H1
                          have H' := Aside0.mk H
                          clear H
                          go_wp2
                          go_loopg [5, 7] kj23 (fun kq v5 v7 w' => ∃ (x5_6 : Int) (x7_6 : Int), v5 = .int .i64 x5_6 ∧ v7 = .int .i64 x7_6 ∧ Aside0 (letterboxref11_Internal.l2 kq x4_11 x5_6 x6_18 x7_6 a0_0 a0_1 = some r) ∧ Aside0 (kq ≤ kj23) ∧ Aside0 (w'.heap[gb250]? = some (.cells #[.int .i64 a0_0, .int .i64 a0_1] 27 (0, 0))) ∧ Aside0 (Below w.heap.size w w'))
                          case atStart => exact ⟨(x5_18), (1), (by first | rfl | (simp; done) | (simp [*]; done)), (by first | rfl | (simp; done) | (simp [*]; done)), H', ⟨Nat.le_refl _⟩, ⟨by (with_reducible repeat (first | refine blk_drewN ?_ _ | refine blk_drew ?_ | refine blk_alloc ?_ _)); exact BK250.out⟩, ⟨by repeat (first | (with_reducible first | exact HB.out | apply below_alloc | apply pw_below_drewN | apply below_drew1 | refine below_set ?_ GE250.out) | exact HB.out)⟩⟩
                          case round =>
                            clear H'
                            try clear c1
                            try clear c2
                            try clear p2
                            try clear c4
                            try clear c4b0
                            try clear c6
                            try clear c6b0
                            try clear p6
                            try clear c8
                            try clear c8b0
                            try clear c11
                            try clear c14
                            try clear c14b0
                            try clear c15
                            try clear c16
                            try clear c16b0
                            try clear c17
                            try clear c17b0
                            try clear c20
                            try clear c20b0
                            try clear c22
                            try clear c22b0
                            try clear c25
                            try clear c25b0
                            try clear c26
                            try clear c26b0
                            try clear c27
                            try clear hcz10_0
                            try clear hcz10_1
                            try clear hcz13_0
                            try clear hcz13_1
                            try clear hcz5_0
                            try clear hcz5_1
                            try clear hcz7_0
                            try clear hcz7_1
                            try clear hcz9_0
                            try clear hcz9_1
                            try clear hfz10_0
                            try clear hfz10_1
                            try clear hfz13_0
                            try clear hfz13_1
                            try clear hfz5_0
                            try clear hfz5_1
                            try clear hfz7_0
                            try clear hfz7_1
                            try clear hfz9_0
                            try clear hfz9_1
                            try clear p2
                            try clear p6
                            obtain ⟨x5_6, x7_6, rfl, rfl, HA, HK6, BK250, HB⟩ := hrel
                            cases gk with
                            | zero => exact absurd HA.out (by simp [letterboxref11_Internal.l2])
                            | succ k6 =>
                              have H := HA.out
                              clear HA
                              simp only [letterboxref11_Internal.l2] at H
                              replace H := Option.bind_eq_some_iff.mp H
                              obtain ⟨t254, A280, H⟩ := H
                              replace H : (if x5_6 ≥ t254 then ((letterboxref11_days.f x6_18 x7_6).bind fun t255 => (letterboxref11_Internal.l2 k6 x4_11 (wrap64 (x5_6 - t255)) x6_18 (wrap64 (x7_6 + 1)) a0_0 a0_1)) else ((letterboxref11_two.f (wrap64 (x5_6 + 1))).bind fun t256 => (if x5_6 < 9 then (if 1 ≤ (t256.size : Int) then (if 1 + (t256.extract 1 t256.size).size ≤ 9223372036854775807 then (letterboxref11_Internal.j8 k6 x4_11 x6_18 x7_6 ((⟨#[32]⟩ : ByteArray) ++ (t256.extract 1 t256.size)) a0_0 a0_1) else (none)) else (none)) else (letterboxref11_Internal.j8 k6 x4_11 x6_18 x7_6 t256 a0_0 a0_1)))) = some r := H
                              have A28 := Aside0.mk A280
                              clear A280
                              by_cases c29 : x5_6 ≥ t254
                              · rw [if_pos c29] at H
                                have c29b0 : decide (t254 ≤ x5_6) = true := decide_eq_true c29
                                clear c29
                                replace H := Option.bind_eq_some_iff.mp H
                                obtain ⟨t255, A300, H⟩ := H
                                replace H : (letterboxref11_Internal.l2 k6 x4_11 (wrap64 (x5_6 - t255)) x6_18 (wrap64 (x7_6 + 1)) a0_0 a0_1) = some r := H
                                have A30 := Aside0.mk A300
                                clear A300
                                have H' := Aside0.mk H
                                clear H
                                go_wp2_with (first | ((with_reducible refine gate_callee (f := 43) rfl ?_); refine goesL_ (some 85) rfl rfl Tryd.func43 (by kernel_rfl) rfl #[.int .i64 x6_18, .int .i64 x7_6] rfl (by (try simp only [List.map_toArray, List.map_cons, List.map_nil]); first | done | rfl | (simp only [List.length_drop, List.length_take]; rfl)) ?_; (with_reducible refine (letterboxref11_days.calls x6_18 x7_6 t254 _ A28.out).mono ?_); rintro e w' ⟨rfl, ⟨nd, rfl⟩⟩; refine ⟨_, rfl, ?_⟩) | ((with_reducible refine gate_callee (f := 43) rfl ?_); refine goesL_ (some 90) rfl rfl Tryd.func43 (by kernel_rfl) rfl #[.int .i64 x6_18, .int .i64 x7_6] rfl (by (try simp only [List.map_toArray, List.map_cons, List.map_nil]); first | done | rfl | (simp only [List.length_drop, List.length_take]; rfl)) ?_; (with_reducible refine (letterboxref11_days.calls x6_18 x7_6 t255 _ A30.out).mono ?_); rintro e w' ⟨rfl, ⟨nd, rfl⟩⟩; refine ⟨_, rfl, ?_⟩))
                                go_roundg k6
                                case measure => have := HJ1.out; have := HJ11.out; have := HJ14.out; have := HJ18.out; have := HJ23.out; have := HK6.out; omega
                                case rel => exact ⟨(wrap64 (x5_6 - t255)), (wrap64 (x7_6 + 1)), (by first | rfl | (simp; done) | (simp [*]; done)), (by first | rfl | (simp; done) | (simp [*]; done)), H', ⟨by have := HJ1.out; have := HJ11.out; have := HJ14.out; have := HJ18.out; have := HJ23.out; have := HK6.out; omega⟩, ⟨by (with_reducible repeat (first | refine blk_drewN ?_ _ | refine blk_drew ?_ | refine blk_alloc ?_ _)); exact BK250.out⟩, ⟨by repeat (first | (with_reducible first | exact HB.out | apply below_alloc | apply pw_below_drewN | apply below_drew1 | refine below_set ?_ GE250.out) | exact HB.out)⟩⟩
                              · rw [if_neg c29] at H
                                have c29b0 : decide (t254 ≤ x5_6) = false := decide_eq_false c29
                                clear c29
                                replace H := Option.bind_eq_some_iff.mp H
                                obtain ⟨t256, A310, H⟩ := H
                                replace H : (if x5_6 < 9 then (if 1 ≤ (t256.size : Int) then (if 1 + (t256.extract 1 t256.size).size ≤ 9223372036854775807 then (letterboxref11_Internal.j8 k6 x4_11 x6_18 x7_6 ((⟨#[32]⟩ : ByteArray) ++ (t256.extract 1 t256.size)) a0_0 a0_1) else (none)) else (none)) else (letterboxref11_Internal.j8 k6 x4_11 x6_18 x7_6 t256 a0_0 a0_1)) = some r := H
                                have A31 := Aside0.mk A310
                                clear A310
                                have HC32 := Aside0.mk H
                                clear H
                                go_upto_if 98 with (first | ((with_reducible refine gate_callee (f := 43) rfl ?_); refine goesL_ (some 85) rfl rfl Tryd.func43 (by kernel_rfl) rfl #[.int .i64 x6_18, .int .i64 x7_6] rfl (by (try simp only [List.map_toArray, List.map_cons, List.map_nil]); first | done | rfl | (simp only [List.length_drop, List.length_take]; rfl)) ?_; (with_reducible refine (letterboxref11_days.calls x6_18 x7_6 t254 _ A28.out).mono ?_); rintro e w' ⟨rfl, ⟨nd, rfl⟩⟩; refine ⟨_, rfl, ?_⟩) | ((with_reducible refine gate_callee (f := 44) rfl ?_); refine goesL_ (some 96) rfl rfl Tryd.func44 (by kernel_rfl) rfl #[.int .i64 (wrap64 (x5_6 + 1))] rfl (by (try simp only [List.map_toArray, List.map_cons, List.map_nil]); first | done | rfl | (simp only [List.length_drop, List.length_take]; rfl)) ?_; (with_reducible refine (letterboxref11_two.calls (wrap64 (x5_6 + 1)) t256 _ A31.out).mono ?_); rintro e w33 ⟨rfl, hb⟩; refine ⟨_, rfl, ?_⟩; have n0_ := Aside0.mk (blk_below (g := gb250) (o := .cells #[.int .i64 a0_0, .int .i64 a0_1] 27 (0, 0)) (by (with_reducible repeat (first | refine blk_drewN ?_ _ | refine blk_drew ?_ | refine blk_alloc ?_ _)); exact BK250.out) hb); have n1_ := Aside0.mk (below_step (by repeat (first | (with_reducible first | exact HB.out | apply below_alloc | apply pw_below_drewN | apply below_drew1 | refine below_set ?_ GE250.out) | exact HB.out)) hb); clear BK250; clear HB; have BK250 := n0_; have HB := n1_; clear n0_ n1_; (try clear hb); (try clear hb2); (try clear hk); (try clear hi)))
                                (try simp only [Act.put, List.setIfInBounds_toArray, List.set_cons_zero, List.set_cons_succ])
                                go_cut [8] (fun v8 wc => ∃ (kq : Nat) (x8_31 : ByteArray), v8 = .string x8_31 ∧ Aside0 (letterboxref11_Internal.j8 kq x4_11 x6_18 x7_6 x8_31 a0_0 a0_1 = some r) ∧ Aside0 (kq ≤ k6) ∧ Aside0 (wc.heap[gb250]? = some (.cells #[.int .i64 a0_0, .int .i64 a0_1] 27 (0, 0))) ∧ Aside0 (Below w.heap.size w wc))
                                case first =>
                                  have H := HC32.out
                                  clear HC32
                                  by_cases c34 : x5_6 < 9
                                  · rw [if_pos c34] at H
                                    have c34b0 : decide (x5_6 < 9) = true := decide_eq_true c34
                                    clear c34
                                    (first | rw [c34b0] | (simp only [i64_w, i32_w]; rw [c34b0]) | skip)
                                    by_cases c35 : 1 ≤ (t256.size : Int)
                                    · rw [if_pos c35] at H
                                      have c35b0 := eq_true c35
                                      have c35b1 : decide (1 ≤ (t256.size : Int)) = true := decide_eq_true c35
                                      clear c35
                                      by_cases c36 : 1 + (t256.extract 1 t256.size).size ≤ 9223372036854775807
                                      · rw [if_pos c36] at H
                                        have c36b0 := eq_true c36
                                        have c36b1 : decide (1 + (t256.extract 1 t256.size).size ≤ 9223372036854775807) = true := decide_eq_true c36
                                        try have c36b2 : (9223372036854775807 < 1 + (t256.extract 1 t256.size).size) = False := eq_false (Nat.not_lt.2 c36)
                                        (try (have c36h := c36; simp only [ByteArray.size_append, ByteArray.size_extract, Int.toNat_natCast, Nat.sub_zero, Nat.min_self, ByteArray.extract_zero_size] at c36h; have c36b7 := eq_false (Nat.not_lt.2 c36h); clear c36h))
                                        try have c36b5 : (9223372036854775807 < 1 + (t256.size - 1)) = False := eq_false (Nat.not_lt.2 (by have h_ := c36; simp only [ByteArray.size_append, ByteArray.size_extract] at h_ ⊢; omega))
                                        have H' := Aside0.mk H
                                        clear H
                                        go_wp2
                                        go_meet
                                        case rel => exact ⟨_, ((⟨#[32]⟩ : ByteArray) ++ (t256.extract 1 t256.size)), (by first | rfl | (simp; done) | (simp [*]; done)), H', ⟨by have := HJ1.out; have := HJ11.out; have := HJ14.out; have := HJ18.out; have := HJ23.out; have := HK6.out; first | omega | exact Nat.le_refl _⟩, ⟨by (with_reducible repeat (first | refine blk_drewN ?_ _ | refine blk_drew ?_ | refine blk_alloc ?_ _)); exact BK250.out⟩, ⟨by repeat (first | (with_reducible first | exact HB.out | apply below_alloc | apply pw_below_drewN | apply below_drew1 | refine below_set ?_ GE250.out) | exact HB.out)⟩⟩
                                      · rw [if_neg c36] at H
                                        exact absurd H (by simp)
                                    · rw [if_neg c35] at H
                                      exact absurd H (by simp)
                                  · rw [if_neg c34] at H
                                    have c34b0 : decide (x5_6 < 9) = false := decide_eq_false c34
                                    clear c34
                                    (first | rw [c34b0] | (simp only [i64_w, i32_w]; rw [c34b0]) | skip)
                                    have H' := Aside0.mk H
                                    clear H
                                    go_wp2
                                    go_meet
                                    case rel => exact ⟨_, (t256), (by first | rfl | (simp; done) | (simp [*]; done)), H', ⟨by have := HJ1.out; have := HJ11.out; have := HJ14.out; have := HJ18.out; have := HJ23.out; have := HK6.out; first | omega | exact Nat.le_refl _⟩, ⟨by (with_reducible repeat (first | refine blk_drewN ?_ _ | refine blk_drew ?_ | refine blk_alloc ?_ _)); exact BK250.out⟩, ⟨by repeat (first | (with_reducible first | exact HB.out | apply below_alloc | apply pw_below_drewN | apply below_drew1 | refine below_set ?_ GE250.out) | exact HB.out)⟩⟩
                                case rest =>
                                  clear HC32
                                  try clear c1
                                  try clear c2
                                  try clear p2
                                  try clear c3
                                  try clear c4
                                  try clear c4b0
                                  try clear c6
                                  try clear c6b0
                                  try clear p6
                                  try clear c8
                                  try clear c8b0
                                  try clear c11
                                  try clear c14
                                  try clear c14b0
                                  try clear c15
                                  try clear c16
                                  try clear c16b0
                                  try clear c17
                                  try clear c17b0
                                  try clear c20
                                  try clear c20b0
                                  try clear c22
                                  try clear c22b0
                                  try clear c25
                                  try clear c25b0
                                  try clear c26
                                  try clear c26b0
                                  try clear c27
                                  try clear c29
                                  try clear c29b0
                                  try clear c34
                                  try clear c34b0
                                  try clear c35
                                  try clear c35b0
                                  try clear c35b1
                                  try clear c36
                                  try clear c36b0
                                  try clear c36b1
                                  try clear c36b2
                                  try clear hcz10_0
                                  try clear hcz10_1
                                  try clear hcz13_0
                                  try clear hcz13_1
                                  try clear hcz5_0
                                  try clear hcz5_1
                                  try clear hcz7_0
                                  try clear hcz7_1
                                  try clear hcz9_0
                                  try clear hcz9_1
                                  try clear hfz10_0
                                  try clear hfz10_1
                                  try clear hfz13_0
                                  try clear hfz13_1
                                  try clear hfz5_0
                                  try clear hfz5_1
                                  try clear hfz7_0
                                  try clear hfz7_1
                                  try clear hfz9_0
                                  try clear hfz9_1
                                  try clear p2
                                  try clear p6
                                  obtain ⟨kq, x8_31, rfl, HA, HJ31, BK250, HB⟩ := hcut
                                  cases kq with
                                  | zero => exact absurd HA.out (by simp [letterboxref11_Internal.j8])
                                  | succ kj31 =>
                                    have H := HA.out
                                    clear HA
                                    simp only [letterboxref11_Internal.j8] at H
                                    have HC37 := Aside0.mk H
                                    clear H
                                    have hcz38_0 : wc.cell? ⟨gb250, 0, none⟩ = some (.int .i64 a0_0) := (blk_cell BK250.out 0).trans rfl
                                    have hcz38_1 : wc.cell? ⟨gb250, 1, none⟩ = some (.int .i64 a0_1) := (blk_cell BK250.out 1).trans rfl
                                    have hfz38_0 := blk_frozen BK250.out 0
                                    have hfz38_1 := blk_frozen BK250.out 1
                                    go_upto_if 105 with (fail)
                                    go_cut [9, 10] (fun v9 v10 wc => ∃ (kq : Nat) (x9_36 : Int) (x10_36 : ByteArray), v9 = .int .i64 x9_36 ∧ v10 = .string x10_36 ∧ Aside0 (letterboxref11_Internal.j9 kq x4_11 x6_18 x7_6 x8_31 x9_36 x10_36 = some r) ∧ Aside0 (kq ≤ kj31) ∧ Aside0 (wc.heap[gb250]? = some (.cells #[.int .i64 a0_0, .int .i64 a0_1] 27 (0, 0))) ∧ Aside0 (Below w.heap.size w wc))
                                    case first =>
                                      have H := HC37.out
                                      clear HC37
                                      by_cases c39 : a0_1 < 0
                                      · rw [if_pos c39] at H
                                        have c39b0 : decide (a0_1 < 0) = true := decide_eq_true c39
                                        clear c39
                                        (first | rw [c39b0] | (simp only [i64_w, i32_w]; rw [c39b0]) | skip)
                                        have H' := Aside0.mk H
                                        clear H
                                        go_wp2
                                        go_meet
                                        case rel => exact ⟨_, (wrap64 (-a0_1)), ((⟨#[45]⟩ : ByteArray)), (by first | rfl | (simp; done) | (simp [*]; done)), (by first | rfl | (simp; done) | (simp [*]; done)), H', ⟨by have := HJ1.out; have := HJ11.out; have := HJ14.out; have := HJ18.out; have := HJ23.out; have := HK6.out; have := HJ31.out; first | omega | exact Nat.le_refl _⟩, ⟨by (with_reducible repeat (first | refine blk_drewN ?_ _ | refine blk_drew ?_ | refine blk_alloc ?_ _)); exact BK250.out⟩, ⟨by repeat (first | (with_reducible first | exact HB.out | apply below_alloc | apply pw_below_drewN | apply below_drew1 | refine below_set ?_ GE250.out) | exact HB.out)⟩⟩
                                      · rw [if_neg c39] at H
                                        have c39b0 : decide (a0_1 < 0) = false := decide_eq_false c39
                                        clear c39
                                        (first | rw [c39b0] | (simp only [i64_w, i32_w]; rw [c39b0]) | skip)
                                        have H' := Aside0.mk H
                                        clear H
                                        go_wp2
                                        go_meet
                                        case rel => exact ⟨_, (a0_1), ((⟨#[43]⟩ : ByteArray)), (by first | rfl | (simp; done) | (simp [*]; done)), (by first | rfl | (simp; done) | (simp [*]; done)), H', ⟨by have := HJ1.out; have := HJ11.out; have := HJ14.out; have := HJ18.out; have := HJ23.out; have := HK6.out; have := HJ31.out; first | omega | exact Nat.le_refl _⟩, ⟨by (with_reducible repeat (first | refine blk_drewN ?_ _ | refine blk_drew ?_ | refine blk_alloc ?_ _)); exact BK250.out⟩, ⟨by repeat (first | (with_reducible first | exact HB.out | apply below_alloc | apply pw_below_drewN | apply below_drew1 | refine below_set ?_ GE250.out) | exact HB.out)⟩⟩
                                    case rest =>
                                      clear HC37
                                      try clear c1
                                      try clear c2
                                      try clear p2
                                      try clear c3
                                      try clear c4
                                      try clear c4b0
                                      try clear c6
                                      try clear c6b0
                                      try clear p6
                                      try clear c8
                                      try clear c8b0
                                      try clear c11
                                      try clear c14
                                      try clear c14b0
                                      try clear c15
                                      try clear c16
                                      try clear c16b0
                                      try clear c17
                                      try clear c17b0
                                      try clear c20
                                      try clear c20b0
                                      try clear c22
                                      try clear c22b0
                                      try clear c25
                                      try clear c25b0
                                      try clear c26
                                      try clear c26b0
                                      try clear c27
                                      try clear c29
                                      try clear c29b0
                                      try clear c34
                                      try clear c34b0
                                      try clear c35
                                      try clear c35b0
                                      try clear c35b1
                                      try clear c36
                                      try clear c36b0
                                      try clear c36b1
                                      try clear c36b2
                                      try clear c39
                                      try clear c39b0
                                      try clear hcz10_0
                                      try clear hcz10_1
                                      try clear hcz13_0
                                      try clear hcz13_1
                                      try clear hcz38_0
                                      try clear hcz38_1
                                      try clear hcz5_0
                                      try clear hcz5_1
                                      try clear hcz7_0
                                      try clear hcz7_1
                                      try clear hcz9_0
                                      try clear hcz9_1
                                      try clear hfz10_0
                                      try clear hfz10_1
                                      try clear hfz13_0
                                      try clear hfz13_1
                                      try clear hfz38_0
                                      try clear hfz38_1
                                      try clear hfz5_0
                                      try clear hfz5_1
                                      try clear hfz7_0
                                      try clear hfz7_1
                                      try clear hfz9_0
                                      try clear hfz9_1
                                      try clear p2
                                      try clear p6
                                      obtain ⟨kq, x9_36, x10_36, rfl, rfl, HA, HJ36, BK250, HB⟩ := hcut
                                      cases kq with
                                      | zero => exact absurd HA.out (by simp [letterboxref11_Internal.j9])
                                      | succ kj36 =>
                                        have H := HA.out
                                        clear HA
                                        simp only [letterboxref11_Internal.j9] at H
                                        by_cases c40 : 1 + x8_31.size ≤ 9223372036854775807
                                        · rw [if_pos c40] at H
                                          have c40b0 := eq_true c40
                                          have c40b1 : decide (1 + x8_31.size ≤ 9223372036854775807) = true := decide_eq_true c40
                                          try have c40b2 : (9223372036854775807 < 1 + x8_31.size) = False := eq_false (Nat.not_lt.2 c40)
                                          by_cases c41 : ((⟨#[34]⟩ : ByteArray) ++ x8_31).size + 1 ≤ 9223372036854775807
                                          · rw [if_pos c41] at H
                                            have c41b0 := eq_true c41
                                            have c41b1 : decide (((⟨#[34]⟩ : ByteArray) ++ x8_31).size + 1 ≤ 9223372036854775807) = true := decide_eq_true c41
                                            try have c41b2 : (9223372036854775807 < ((⟨#[34]⟩ : ByteArray) ++ x8_31).size + 1) = False := eq_false (Nat.not_lt.2 c41)
                                            try have c41b4 : (9223372036854775807 < 1 + x8_31.size + 1) = False := eq_false (Nat.not_lt.2 (by have h_ := c41; simp only [ByteArray.size_append] at h_; exact h_))
                                            replace H := Option.bind_eq_some_iff.mp H
                                            obtain ⟨t257, A420, H⟩ := H
                                            replace H : (if (((⟨#[34]⟩ : ByteArray) ++ x8_31) ++ (⟨#[45]⟩ : ByteArray)).size + t257.size ≤ 9223372036854775807 then (if ((((⟨#[34]⟩ : ByteArray) ++ x8_31) ++ (⟨#[45]⟩ : ByteArray)) ++ t257).size + 1 ≤ 9223372036854775807 then ((letterboxref11_two.f (wrap64 (Int.tdiv x6_18 100))).bind fun t258 => (if (((((⟨#[34]⟩ : ByteArray) ++ x8_31) ++ (⟨#[45]⟩ : ByteArray)) ++ t257) ++ (⟨#[45]⟩ : ByteArray)).size + t258.size ≤ 9223372036854775807 then ((letterboxref11_two.f (Int.tmod x6_18 100)).bind fun t259 => (if ((((((⟨#[34]⟩ : ByteArray) ++ x8_31) ++ (⟨#[45]⟩ : ByteArray)) ++ t257) ++ (⟨#[45]⟩ : ByteArray)) ++ t258).size + t259.size ≤ 9223372036854775807 then (if (((((((⟨#[34]⟩ : ByteArray) ++ x8_31) ++ (⟨#[45]⟩ : ByteArray)) ++ t257) ++ (⟨#[45]⟩ : ByteArray)) ++ t258) ++ t259).size + 1 ≤ 9223372036854775807 then ((letterboxref11_two.f (wrap64 (Int.tdiv x4_11 3600))).bind fun t260 => (if ((((((((⟨#[34]⟩ : ByteArray) ++ x8_31) ++ (⟨#[45]⟩ : ByteArray)) ++ t257) ++ (⟨#[45]⟩ : ByteArray)) ++ t258) ++ t259) ++ (⟨#[32]⟩ : ByteArray)).size + t260.size ≤ 9223372036854775807 then (if (((((((((⟨#[34]⟩ : ByteArray) ++ x8_31) ++ (⟨#[45]⟩ : ByteArray)) ++ t257) ++ (⟨#[45]⟩ : ByteArray)) ++ t258) ++ t259) ++ (⟨#[32]⟩ : ByteArray)) ++ t260).size + 1 ≤ 9223372036854775807 then ((letterboxref11_two.f (Int.tmod (wrap64 (Int.tdiv x4_11 60)) 60)).bind fun t261 => (if ((((((((((⟨#[34]⟩ : ByteArray) ++ x8_31) ++ (⟨#[45]⟩ : ByteArray)) ++ t257) ++ (⟨#[45]⟩ : ByteArray)) ++ t258) ++ t259) ++ (⟨#[32]⟩ : ByteArray)) ++ t260) ++ (⟨#[58]⟩ : ByteArray)).size + t261.size ≤ 9223372036854775807 then (if (((((((((((⟨#[34]⟩ : ByteArray) ++ x8_31) ++ (⟨#[45]⟩ : ByteArray)) ++ t257) ++ (⟨#[45]⟩ : ByteArray)) ++ t258) ++ t259) ++ (⟨#[32]⟩ : ByteArray)) ++ t260) ++ (⟨#[58]⟩ : ByteArray)) ++ t261).size + 1 ≤ 9223372036854775807 then ((letterboxref11_two.f (Int.tmod x4_11 60)).bind fun t262 => (if ((((((((((((⟨#[34]⟩ : ByteArray) ++ x8_31) ++ (⟨#[45]⟩ : ByteArray)) ++ t257) ++ (⟨#[45]⟩ : ByteArray)) ++ t258) ++ t259) ++ (⟨#[32]⟩ : ByteArray)) ++ t260) ++ (⟨#[58]⟩ : ByteArray)) ++ t261) ++ (⟨#[58]⟩ : ByteArray)).size + t262.size ≤ 9223372036854775807 then (if (((((((((((((⟨#[34]⟩ : ByteArray) ++ x8_31) ++ (⟨#[45]⟩ : ByteArray)) ++ t257) ++ (⟨#[45]⟩ : ByteArray)) ++ t258) ++ t259) ++ (⟨#[32]⟩ : ByteArray)) ++ t260) ++ (⟨#[58]⟩ : ByteArray)) ++ t261) ++ (⟨#[58]⟩ : ByteArray)) ++ t262).size + 1 ≤ 9223372036854775807 then (if ((((((((((((((⟨#[34]⟩ : ByteArray) ++ x8_31) ++ (⟨#[45]⟩ : ByteArray)) ++ t257) ++ (⟨#[45]⟩ : ByteArray)) ++ t258) ++ t259) ++ (⟨#[32]⟩ : ByteArray)) ++ t260) ++ (⟨#[58]⟩ : ByteArray)) ++ t261) ++ (⟨#[58]⟩ : ByteArray)) ++ t262) ++ (⟨#[32]⟩ : ByteArray)).size + x10_36.size ≤ 9223372036854775807 then ((letterboxref11_two.f (wrap64 (Int.tdiv x9_36 60))).bind fun t263 => (if (((((((((((((((⟨#[34]⟩ : ByteArray) ++ x8_31) ++ (⟨#[45]⟩ : ByteArray)) ++ t257) ++ (⟨#[45]⟩ : ByteArray)) ++ t258) ++ t259) ++ (⟨#[32]⟩ : ByteArray)) ++ t260) ++ (⟨#[58]⟩ : ByteArray)) ++ t261) ++ (⟨#[58]⟩ : ByteArray)) ++ t262) ++ (⟨#[32]⟩ : ByteArray)) ++ x10_36).size + t263.size ≤ 9223372036854775807 then ((letterboxref11_two.f (Int.tmod x9_36 60)).bind fun t264 => (if ((((((((((((((((⟨#[34]⟩ : ByteArray) ++ x8_31) ++ (⟨#[45]⟩ : ByteArray)) ++ t257) ++ (⟨#[45]⟩ : ByteArray)) ++ t258) ++ t259) ++ (⟨#[32]⟩ : ByteArray)) ++ t260) ++ (⟨#[58]⟩ : ByteArray)) ++ t261) ++ (⟨#[58]⟩ : ByteArray)) ++ t262) ++ (⟨#[32]⟩ : ByteArray)) ++ x10_36) ++ t263).size + t264.size ≤ 9223372036854775807 then (if (((((((((((((((((⟨#[34]⟩ : ByteArray) ++ x8_31) ++ (⟨#[45]⟩ : ByteArray)) ++ t257) ++ (⟨#[45]⟩ : ByteArray)) ++ t258) ++ t259) ++ (⟨#[32]⟩ : ByteArray)) ++ t260) ++ (⟨#[58]⟩ : ByteArray)) ++ t261) ++ (⟨#[58]⟩ : ByteArray)) ++ t262) ++ (⟨#[32]⟩ : ByteArray)) ++ x10_36) ++ t263) ++ t264).size + 1 ≤ 9223372036854775807 then (some ((((((((((((((((((⟨#[34]⟩ : ByteArray) ++ x8_31) ++ (⟨#[45]⟩ : ByteArray)) ++ t257) ++ (⟨#[45]⟩ : ByteArray)) ++ t258) ++ t259) ++ (⟨#[32]⟩ : ByteArray)) ++ t260) ++ (⟨#[58]⟩ : ByteArray)) ++ t261) ++ (⟨#[58]⟩ : ByteArray)) ++ t262) ++ (⟨#[32]⟩ : ByteArray)) ++ x10_36) ++ t263) ++ t264) ++ (⟨#[34]⟩ : ByteArray))) else (none)) else (none))) else (none))) else (none)) else (none)) else (none))) else (none)) else (none))) else (none)) else (none))) else (none)) else (none))) else (none))) else (none)) else (none)) = some r := H
                                            have A42 := Aside0.mk A420
                                            clear A420
                                            by_cases c43 : (((⟨#[34]⟩ : ByteArray) ++ x8_31) ++ (⟨#[45]⟩ : ByteArray)).size + t257.size ≤ 9223372036854775807
                                            · rw [if_pos c43] at H
                                              have c43b0 := eq_true c43
                                              have c43b1 : decide ((((⟨#[34]⟩ : ByteArray) ++ x8_31) ++ (⟨#[45]⟩ : ByteArray)).size + t257.size ≤ 9223372036854775807) = true := decide_eq_true c43
                                              try have c43b2 : (9223372036854775807 < (((⟨#[34]⟩ : ByteArray) ++ x8_31) ++ (⟨#[45]⟩ : ByteArray)).size + t257.size) = False := eq_false (Nat.not_lt.2 c43)
                                              try have c43b4 : (9223372036854775807 < 1 + x8_31.size + 1 + t257.size) = False := eq_false (Nat.not_lt.2 (by have h_ := c43; simp only [ByteArray.size_append] at h_; exact h_))
                                              by_cases c44 : ((((⟨#[34]⟩ : ByteArray) ++ x8_31) ++ (⟨#[45]⟩ : ByteArray)) ++ t257).size + 1 ≤ 9223372036854775807
                                              · rw [if_pos c44] at H
                                                have c44b0 := eq_true c44
                                                have c44b1 : decide (((((⟨#[34]⟩ : ByteArray) ++ x8_31) ++ (⟨#[45]⟩ : ByteArray)) ++ t257).size + 1 ≤ 9223372036854775807) = true := decide_eq_true c44
                                                try have c44b2 : (9223372036854775807 < ((((⟨#[34]⟩ : ByteArray) ++ x8_31) ++ (⟨#[45]⟩ : ByteArray)) ++ t257).size + 1) = False := eq_false (Nat.not_lt.2 c44)
                                                try have c44b4 : (9223372036854775807 < 1 + x8_31.size + 1 + t257.size + 1) = False := eq_false (Nat.not_lt.2 (by have h_ := c44; simp only [ByteArray.size_append] at h_; exact h_))
                                                replace H := Option.bind_eq_some_iff.mp H
                                                obtain ⟨t258, A450, H⟩ := H
                                                replace H : (if (((((⟨#[34]⟩ : ByteArray) ++ x8_31) ++ (⟨#[45]⟩ : ByteArray)) ++ t257) ++ (⟨#[45]⟩ : ByteArray)).size + t258.size ≤ 9223372036854775807 then ((letterboxref11_two.f (Int.tmod x6_18 100)).bind fun t259 => (if ((((((⟨#[34]⟩ : ByteArray) ++ x8_31) ++ (⟨#[45]⟩ : ByteArray)) ++ t257) ++ (⟨#[45]⟩ : ByteArray)) ++ t258).size + t259.size ≤ 9223372036854775807 then (if (((((((⟨#[34]⟩ : ByteArray) ++ x8_31) ++ (⟨#[45]⟩ : ByteArray)) ++ t257) ++ (⟨#[45]⟩ : ByteArray)) ++ t258) ++ t259).size + 1 ≤ 9223372036854775807 then ((letterboxref11_two.f (wrap64 (Int.tdiv x4_11 3600))).bind fun t260 => (if ((((((((⟨#[34]⟩ : ByteArray) ++ x8_31) ++ (⟨#[45]⟩ : ByteArray)) ++ t257) ++ (⟨#[45]⟩ : ByteArray)) ++ t258) ++ t259) ++ (⟨#[32]⟩ : ByteArray)).size + t260.size ≤ 9223372036854775807 then (if (((((((((⟨#[34]⟩ : ByteArray) ++ x8_31) ++ (⟨#[45]⟩ : ByteArray)) ++ t257) ++ (⟨#[45]⟩ : ByteArray)) ++ t258) ++ t259) ++ (⟨#[32]⟩ : ByteArray)) ++ t260).size + 1 ≤ 9223372036854775807 then ((letterboxref11_two.f (Int.tmod (wrap64 (Int.tdiv x4_11 60)) 60)).bind fun t261 => (if ((((((((((⟨#[34]⟩ : ByteArray) ++ x8_31) ++ (⟨#[45]⟩ : ByteArray)) ++ t257) ++ (⟨#[45]⟩ : ByteArray)) ++ t258) ++ t259) ++ (⟨#[32]⟩ : ByteArray)) ++ t260) ++ (⟨#[58]⟩ : ByteArray)).size + t261.size ≤ 9223372036854775807 then (if (((((((((((⟨#[34]⟩ : ByteArray) ++ x8_31) ++ (⟨#[45]⟩ : ByteArray)) ++ t257) ++ (⟨#[45]⟩ : ByteArray)) ++ t258) ++ t259) ++ (⟨#[32]⟩ : ByteArray)) ++ t260) ++ (⟨#[58]⟩ : ByteArray)) ++ t261).size + 1 ≤ 9223372036854775807 then ((letterboxref11_two.f (Int.tmod x4_11 60)).bind fun t262 => (if ((((((((((((⟨#[34]⟩ : ByteArray) ++ x8_31) ++ (⟨#[45]⟩ : ByteArray)) ++ t257) ++ (⟨#[45]⟩ : ByteArray)) ++ t258) ++ t259) ++ (⟨#[32]⟩ : ByteArray)) ++ t260) ++ (⟨#[58]⟩ : ByteArray)) ++ t261) ++ (⟨#[58]⟩ : ByteArray)).size + t262.size ≤ 9223372036854775807 then (if (((((((((((((⟨#[34]⟩ : ByteArray) ++ x8_31) ++ (⟨#[45]⟩ : ByteArray)) ++ t257) ++ (⟨#[45]⟩ : ByteArray)) ++ t258) ++ t259) ++ (⟨#[32]⟩ : ByteArray)) ++ t260) ++ (⟨#[58]⟩ : ByteArray)) ++ t261) ++ (⟨#[58]⟩ : ByteArray)) ++ t262).size + 1 ≤ 9223372036854775807 then (if ((((((((((((((⟨#[34]⟩ : ByteArray) ++ x8_31) ++ (⟨#[45]⟩ : ByteArray)) ++ t257) ++ (⟨#[45]⟩ : ByteArray)) ++ t258) ++ t259) ++ (⟨#[32]⟩ : ByteArray)) ++ t260) ++ (⟨#[58]⟩ : ByteArray)) ++ t261) ++ (⟨#[58]⟩ : ByteArray)) ++ t262) ++ (⟨#[32]⟩ : ByteArray)).size + x10_36.size ≤ 9223372036854775807 then ((letterboxref11_two.f (wrap64 (Int.tdiv x9_36 60))).bind fun t263 => (if (((((((((((((((⟨#[34]⟩ : ByteArray) ++ x8_31) ++ (⟨#[45]⟩ : ByteArray)) ++ t257) ++ (⟨#[45]⟩ : ByteArray)) ++ t258) ++ t259) ++ (⟨#[32]⟩ : ByteArray)) ++ t260) ++ (⟨#[58]⟩ : ByteArray)) ++ t261) ++ (⟨#[58]⟩ : ByteArray)) ++ t262) ++ (⟨#[32]⟩ : ByteArray)) ++ x10_36).size + t263.size ≤ 9223372036854775807 then ((letterboxref11_two.f (Int.tmod x9_36 60)).bind fun t264 => (if ((((((((((((((((⟨#[34]⟩ : ByteArray) ++ x8_31) ++ (⟨#[45]⟩ : ByteArray)) ++ t257) ++ (⟨#[45]⟩ : ByteArray)) ++ t258) ++ t259) ++ (⟨#[32]⟩ : ByteArray)) ++ t260) ++ (⟨#[58]⟩ : ByteArray)) ++ t261) ++ (⟨#[58]⟩ : ByteArray)) ++ t262) ++ (⟨#[32]⟩ : ByteArray)) ++ x10_36) ++ t263).size + t264.size ≤ 9223372036854775807 then (if (((((((((((((((((⟨#[34]⟩ : ByteArray) ++ x8_31) ++ (⟨#[45]⟩ : ByteArray)) ++ t257) ++ (⟨#[45]⟩ : ByteArray)) ++ t258) ++ t259) ++ (⟨#[32]⟩ : ByteArray)) ++ t260) ++ (⟨#[58]⟩ : ByteArray)) ++ t261) ++ (⟨#[58]⟩ : ByteArray)) ++ t262) ++ (⟨#[32]⟩ : ByteArray)) ++ x10_36) ++ t263) ++ t264).size + 1 ≤ 9223372036854775807 then (some ((((((((((((((((((⟨#[34]⟩ : ByteArray) ++ x8_31) ++ (⟨#[45]⟩ : ByteArray)) ++ t257) ++ (⟨#[45]⟩ : ByteArray)) ++ t258) ++ t259) ++ (⟨#[32]⟩ : ByteArray)) ++ t260) ++ (⟨#[58]⟩ : ByteArray)) ++ t261) ++ (⟨#[58]⟩ : ByteArray)) ++ t262) ++ (⟨#[32]⟩ : ByteArray)) ++ x10_36) ++ t263) ++ t264) ++ (⟨#[34]⟩ : ByteArray))) else (none)) else (none))) else (none))) else (none)) else (none)) else (none))) else (none)) else (none))) else (none)) else (none))) else (none)) else (none))) else (none)) = some r := H
                                                have A45 := Aside0.mk A450
                                                clear A450
                                                by_cases c46 : (((((⟨#[34]⟩ : ByteArray) ++ x8_31) ++ (⟨#[45]⟩ : ByteArray)) ++ t257) ++ (⟨#[45]⟩ : ByteArray)).size + t258.size ≤ 9223372036854775807
                                                · rw [if_pos c46] at H
                                                  have c46b0 := eq_true c46
                                                  have c46b1 : decide ((((((⟨#[34]⟩ : ByteArray) ++ x8_31) ++ (⟨#[45]⟩ : ByteArray)) ++ t257) ++ (⟨#[45]⟩ : ByteArray)).size + t258.size ≤ 9223372036854775807) = true := decide_eq_true c46
                                                  try have c46b2 : (9223372036854775807 < (((((⟨#[34]⟩ : ByteArray) ++ x8_31) ++ (⟨#[45]⟩ : ByteArray)) ++ t257) ++ (⟨#[45]⟩ : ByteArray)).size + t258.size) = False := eq_false (Nat.not_lt.2 c46)
                                                  try have c46b4 : (9223372036854775807 < 1 + x8_31.size + 1 + t257.size + 1 + t258.size) = False := eq_false (Nat.not_lt.2 (by have h_ := c46; simp only [ByteArray.size_append] at h_; exact h_))
                                                  replace H := Option.bind_eq_some_iff.mp H
                                                  obtain ⟨t259, A470, H⟩ := H
                                                  replace H : (if ((((((⟨#[34]⟩ : ByteArray) ++ x8_31) ++ (⟨#[45]⟩ : ByteArray)) ++ t257) ++ (⟨#[45]⟩ : ByteArray)) ++ t258).size + t259.size ≤ 9223372036854775807 then (if (((((((⟨#[34]⟩ : ByteArray) ++ x8_31) ++ (⟨#[45]⟩ : ByteArray)) ++ t257) ++ (⟨#[45]⟩ : ByteArray)) ++ t258) ++ t259).size + 1 ≤ 9223372036854775807 then ((letterboxref11_two.f (wrap64 (Int.tdiv x4_11 3600))).bind fun t260 => (if ((((((((⟨#[34]⟩ : ByteArray) ++ x8_31) ++ (⟨#[45]⟩ : ByteArray)) ++ t257) ++ (⟨#[45]⟩ : ByteArray)) ++ t258) ++ t259) ++ (⟨#[32]⟩ : ByteArray)).size + t260.size ≤ 9223372036854775807 then (if (((((((((⟨#[34]⟩ : ByteArray) ++ x8_31) ++ (⟨#[45]⟩ : ByteArray)) ++ t257) ++ (⟨#[45]⟩ : ByteArray)) ++ t258) ++ t259) ++ (⟨#[32]⟩ : ByteArray)) ++ t260).size + 1 ≤ 9223372036854775807 then ((letterboxref11_two.f (Int.tmod (wrap64 (Int.tdiv x4_11 60)) 60)).bind fun t261 => (if ((((((((((⟨#[34]⟩ : ByteArray) ++ x8_31) ++ (⟨#[45]⟩ : ByteArray)) ++ t257) ++ (⟨#[45]⟩ : ByteArray)) ++ t258) ++ t259) ++ (⟨#[32]⟩ : ByteArray)) ++ t260) ++ (⟨#[58]⟩ : ByteArray)).size + t261.size ≤ 9223372036854775807 then (if (((((((((((⟨#[34]⟩ : ByteArray) ++ x8_31) ++ (⟨#[45]⟩ : ByteArray)) ++ t257) ++ (⟨#[45]⟩ : ByteArray)) ++ t258) ++ t259) ++ (⟨#[32]⟩ : ByteArray)) ++ t260) ++ (⟨#[58]⟩ : ByteArray)) ++ t261).size + 1 ≤ 9223372036854775807 then ((letterboxref11_two.f (Int.tmod x4_11 60)).bind fun t262 => (if ((((((((((((⟨#[34]⟩ : ByteArray) ++ x8_31) ++ (⟨#[45]⟩ : ByteArray)) ++ t257) ++ (⟨#[45]⟩ : ByteArray)) ++ t258) ++ t259) ++ (⟨#[32]⟩ : ByteArray)) ++ t260) ++ (⟨#[58]⟩ : ByteArray)) ++ t261) ++ (⟨#[58]⟩ : ByteArray)).size + t262.size ≤ 9223372036854775807 then (if (((((((((((((⟨#[34]⟩ : ByteArray) ++ x8_31) ++ (⟨#[45]⟩ : ByteArray)) ++ t257) ++ (⟨#[45]⟩ : ByteArray)) ++ t258) ++ t259) ++ (⟨#[32]⟩ : ByteArray)) ++ t260) ++ (⟨#[58]⟩ : ByteArray)) ++ t261) ++ (⟨#[58]⟩ : ByteArray)) ++ t262).size + 1 ≤ 9223372036854775807 then (if ((((((((((((((⟨#[34]⟩ : ByteArray) ++ x8_31) ++ (⟨#[45]⟩ : ByteArray)) ++ t257) ++ (⟨#[45]⟩ : ByteArray)) ++ t258) ++ t259) ++ (⟨#[32]⟩ : ByteArray)) ++ t260) ++ (⟨#[58]⟩ : ByteArray)) ++ t261) ++ (⟨#[58]⟩ : ByteArray)) ++ t262) ++ (⟨#[32]⟩ : ByteArray)).size + x10_36.size ≤ 9223372036854775807 then ((letterboxref11_two.f (wrap64 (Int.tdiv x9_36 60))).bind fun t263 => (if (((((((((((((((⟨#[34]⟩ : ByteArray) ++ x8_31) ++ (⟨#[45]⟩ : ByteArray)) ++ t257) ++ (⟨#[45]⟩ : ByteArray)) ++ t258) ++ t259) ++ (⟨#[32]⟩ : ByteArray)) ++ t260) ++ (⟨#[58]⟩ : ByteArray)) ++ t261) ++ (⟨#[58]⟩ : ByteArray)) ++ t262) ++ (⟨#[32]⟩ : ByteArray)) ++ x10_36).size + t263.size ≤ 9223372036854775807 then ((letterboxref11_two.f (Int.tmod x9_36 60)).bind fun t264 => (if ((((((((((((((((⟨#[34]⟩ : ByteArray) ++ x8_31) ++ (⟨#[45]⟩ : ByteArray)) ++ t257) ++ (⟨#[45]⟩ : ByteArray)) ++ t258) ++ t259) ++ (⟨#[32]⟩ : ByteArray)) ++ t260) ++ (⟨#[58]⟩ : ByteArray)) ++ t261) ++ (⟨#[58]⟩ : ByteArray)) ++ t262) ++ (⟨#[32]⟩ : ByteArray)) ++ x10_36) ++ t263).size + t264.size ≤ 9223372036854775807 then (if (((((((((((((((((⟨#[34]⟩ : ByteArray) ++ x8_31) ++ (⟨#[45]⟩ : ByteArray)) ++ t257) ++ (⟨#[45]⟩ : ByteArray)) ++ t258) ++ t259) ++ (⟨#[32]⟩ : ByteArray)) ++ t260) ++ (⟨#[58]⟩ : ByteArray)) ++ t261) ++ (⟨#[58]⟩ : ByteArray)) ++ t262) ++ (⟨#[32]⟩ : ByteArray)) ++ x10_36) ++ t263) ++ t264).size + 1 ≤ 9223372036854775807 then (some ((((((((((((((((((⟨#[34]⟩ : ByteArray) ++ x8_31) ++ (⟨#[45]⟩ : ByteArray)) ++ t257) ++ (⟨#[45]⟩ : ByteArray)) ++ t258) ++ t259) ++ (⟨#[32]⟩ : ByteArray)) ++ t260) ++ (⟨#[58]⟩ : ByteArray)) ++ t261) ++ (⟨#[58]⟩ : ByteArray)) ++ t262) ++ (⟨#[32]⟩ : ByteArray)) ++ x10_36) ++ t263) ++ t264) ++ (⟨#[34]⟩ : ByteArray))) else (none)) else (none))) else (none))) else (none)) else (none)) else (none))) else (none)) else (none))) else (none)) else (none))) else (none)) else (none)) = some r := H
                                                  have A47 := Aside0.mk A470
                                                  clear A470
                                                  by_cases c48 : ((((((⟨#[34]⟩ : ByteArray) ++ x8_31) ++ (⟨#[45]⟩ : ByteArray)) ++ t257) ++ (⟨#[45]⟩ : ByteArray)) ++ t258).size + t259.size ≤ 9223372036854775807
                                                  · rw [if_pos c48] at H
                                                    have c48b0 := eq_true c48
                                                    have c48b1 : decide (((((((⟨#[34]⟩ : ByteArray) ++ x8_31) ++ (⟨#[45]⟩ : ByteArray)) ++ t257) ++ (⟨#[45]⟩ : ByteArray)) ++ t258).size + t259.size ≤ 9223372036854775807) = true := decide_eq_true c48
                                                    try have c48b2 : (9223372036854775807 < ((((((⟨#[34]⟩ : ByteArray) ++ x8_31) ++ (⟨#[45]⟩ : ByteArray)) ++ t257) ++ (⟨#[45]⟩ : ByteArray)) ++ t258).size + t259.size) = False := eq_false (Nat.not_lt.2 c48)
                                                    try have c48b4 : (9223372036854775807 < 1 + x8_31.size + 1 + t257.size + 1 + t258.size + t259.size) = False := eq_false (Nat.not_lt.2 (by have h_ := c48; simp only [ByteArray.size_append] at h_; exact h_))
                                                    by_cases c49 : (((((((⟨#[34]⟩ : ByteArray) ++ x8_31) ++ (⟨#[45]⟩ : ByteArray)) ++ t257) ++ (⟨#[45]⟩ : ByteArray)) ++ t258) ++ t259).size + 1 ≤ 9223372036854775807
                                                    · rw [if_pos c49] at H
                                                      have c49b0 := eq_true c49
                                                      have c49b1 : decide ((((((((⟨#[34]⟩ : ByteArray) ++ x8_31) ++ (⟨#[45]⟩ : ByteArray)) ++ t257) ++ (⟨#[45]⟩ : ByteArray)) ++ t258) ++ t259).size + 1 ≤ 9223372036854775807) = true := decide_eq_true c49
                                                      try have c49b2 : (9223372036854775807 < (((((((⟨#[34]⟩ : ByteArray) ++ x8_31) ++ (⟨#[45]⟩ : ByteArray)) ++ t257) ++ (⟨#[45]⟩ : ByteArray)) ++ t258) ++ t259).size + 1) = False := eq_false (Nat.not_lt.2 c49)
                                                      try have c49b4 : (9223372036854775807 < 1 + x8_31.size + 1 + t257.size + 1 + t258.size + t259.size + 1) = False := eq_false (Nat.not_lt.2 (by have h_ := c49; simp only [ByteArray.size_append] at h_; exact h_))
                                                      replace H := Option.bind_eq_some_iff.mp H
                                                      obtain ⟨t260, A500, H⟩ := H
                                                      replace H : (if ((((((((⟨#[34]⟩ : ByteArray) ++ x8_31) ++ (⟨#[45]⟩ : ByteArray)) ++ t257) ++ (⟨#[45]⟩ : ByteArray)) ++ t258) ++ t259) ++ (⟨#[32]⟩ : ByteArray)).size + t260.size ≤ 9223372036854775807 then (if (((((((((⟨#[34]⟩ : ByteArray) ++ x8_31) ++ (⟨#[45]⟩ : ByteArray)) ++ t257) ++ (⟨#[45]⟩ : ByteArray)) ++ t258) ++ t259) ++ (⟨#[32]⟩ : ByteArray)) ++ t260).size + 1 ≤ 9223372036854775807 then ((letterboxref11_two.f (Int.tmod (wrap64 (Int.tdiv x4_11 60)) 60)).bind fun t261 => (if ((((((((((⟨#[34]⟩ : ByteArray) ++ x8_31) ++ (⟨#[45]⟩ : ByteArray)) ++ t257) ++ (⟨#[45]⟩ : ByteArray)) ++ t258) ++ t259) ++ (⟨#[32]⟩ : ByteArray)) ++ t260) ++ (⟨#[58]⟩ : ByteArray)).size + t261.size ≤ 9223372036854775807 then (if (((((((((((⟨#[34]⟩ : ByteArray) ++ x8_31) ++ (⟨#[45]⟩ : ByteArray)) ++ t257) ++ (⟨#[45]⟩ : ByteArray)) ++ t258) ++ t259) ++ (⟨#[32]⟩ : ByteArray)) ++ t260) ++ (⟨#[58]⟩ : ByteArray)) ++ t261).size + 1 ≤ 9223372036854775807 then ((letterboxref11_two.f (Int.tmod x4_11 60)).bind fun t262 => (if ((((((((((((⟨#[34]⟩ : ByteArray) ++ x8_31) ++ (⟨#[45]⟩ : ByteArray)) ++ t257) ++ (⟨#[45]⟩ : ByteArray)) ++ t258) ++ t259) ++ (⟨#[32]⟩ : ByteArray)) ++ t260) ++ (⟨#[58]⟩ : ByteArray)) ++ t261) ++ (⟨#[58]⟩ : ByteArray)).size + t262.size ≤ 9223372036854775807 then (if (((((((((((((⟨#[34]⟩ : ByteArray) ++ x8_31) ++ (⟨#[45]⟩ : ByteArray)) ++ t257) ++ (⟨#[45]⟩ : ByteArray)) ++ t258) ++ t259) ++ (⟨#[32]⟩ : ByteArray)) ++ t260) ++ (⟨#[58]⟩ : ByteArray)) ++ t261) ++ (⟨#[58]⟩ : ByteArray)) ++ t262).size + 1 ≤ 9223372036854775807 then (if ((((((((((((((⟨#[34]⟩ : ByteArray) ++ x8_31) ++ (⟨#[45]⟩ : ByteArray)) ++ t257) ++ (⟨#[45]⟩ : ByteArray)) ++ t258) ++ t259) ++ (⟨#[32]⟩ : ByteArray)) ++ t260) ++ (⟨#[58]⟩ : ByteArray)) ++ t261) ++ (⟨#[58]⟩ : ByteArray)) ++ t262) ++ (⟨#[32]⟩ : ByteArray)).size + x10_36.size ≤ 9223372036854775807 then ((letterboxref11_two.f (wrap64 (Int.tdiv x9_36 60))).bind fun t263 => (if (((((((((((((((⟨#[34]⟩ : ByteArray) ++ x8_31) ++ (⟨#[45]⟩ : ByteArray)) ++ t257) ++ (⟨#[45]⟩ : ByteArray)) ++ t258) ++ t259) ++ (⟨#[32]⟩ : ByteArray)) ++ t260) ++ (⟨#[58]⟩ : ByteArray)) ++ t261) ++ (⟨#[58]⟩ : ByteArray)) ++ t262) ++ (⟨#[32]⟩ : ByteArray)) ++ x10_36).size + t263.size ≤ 9223372036854775807 then ((letterboxref11_two.f (Int.tmod x9_36 60)).bind fun t264 => (if ((((((((((((((((⟨#[34]⟩ : ByteArray) ++ x8_31) ++ (⟨#[45]⟩ : ByteArray)) ++ t257) ++ (⟨#[45]⟩ : ByteArray)) ++ t258) ++ t259) ++ (⟨#[32]⟩ : ByteArray)) ++ t260) ++ (⟨#[58]⟩ : ByteArray)) ++ t261) ++ (⟨#[58]⟩ : ByteArray)) ++ t262) ++ (⟨#[32]⟩ : ByteArray)) ++ x10_36) ++ t263).size + t264.size ≤ 9223372036854775807 then (if (((((((((((((((((⟨#[34]⟩ : ByteArray) ++ x8_31) ++ (⟨#[45]⟩ : ByteArray)) ++ t257) ++ (⟨#[45]⟩ : ByteArray)) ++ t258) ++ t259) ++ (⟨#[32]⟩ : ByteArray)) ++ t260) ++ (⟨#[58]⟩ : ByteArray)) ++ t261) ++ (⟨#[58]⟩ : ByteArray)) ++ t262) ++ (⟨#[32]⟩ : ByteArray)) ++ x10_36) ++ t263) ++ t264).size + 1 ≤ 9223372036854775807 then (some ((((((((((((((((((⟨#[34]⟩ : ByteArray) ++ x8_31) ++ (⟨#[45]⟩ : ByteArray)) ++ t257) ++ (⟨#[45]⟩ : ByteArray)) ++ t258) ++ t259) ++ (⟨#[32]⟩ : ByteArray)) ++ t260) ++ (⟨#[58]⟩ : ByteArray)) ++ t261) ++ (⟨#[58]⟩ : ByteArray)) ++ t262) ++ (⟨#[32]⟩ : ByteArray)) ++ x10_36) ++ t263) ++ t264) ++ (⟨#[34]⟩ : ByteArray))) else (none)) else (none))) else (none))) else (none)) else (none)) else (none))) else (none)) else (none))) else (none)) else (none)) = some r := H
                                                      have A50 := Aside0.mk A500
                                                      clear A500
                                                      by_cases c51 : ((((((((⟨#[34]⟩ : ByteArray) ++ x8_31) ++ (⟨#[45]⟩ : ByteArray)) ++ t257) ++ (⟨#[45]⟩ : ByteArray)) ++ t258) ++ t259) ++ (⟨#[32]⟩ : ByteArray)).size + t260.size ≤ 9223372036854775807
                                                      · rw [if_pos c51] at H
                                                        have c51b0 := eq_true c51
                                                        have c51b1 : decide (((((((((⟨#[34]⟩ : ByteArray) ++ x8_31) ++ (⟨#[45]⟩ : ByteArray)) ++ t257) ++ (⟨#[45]⟩ : ByteArray)) ++ t258) ++ t259) ++ (⟨#[32]⟩ : ByteArray)).size + t260.size ≤ 9223372036854775807) = true := decide_eq_true c51
                                                        try have c51b2 : (9223372036854775807 < ((((((((⟨#[34]⟩ : ByteArray) ++ x8_31) ++ (⟨#[45]⟩ : ByteArray)) ++ t257) ++ (⟨#[45]⟩ : ByteArray)) ++ t258) ++ t259) ++ (⟨#[32]⟩ : ByteArray)).size + t260.size) = False := eq_false (Nat.not_lt.2 c51)
                                                        try have c51b4 : (9223372036854775807 < 1 + x8_31.size + 1 + t257.size + 1 + t258.size + t259.size + 1 + t260.size) = False := eq_false (Nat.not_lt.2 (by have h_ := c51; simp only [ByteArray.size_append] at h_; exact h_))
                                                        by_cases c52 : (((((((((⟨#[34]⟩ : ByteArray) ++ x8_31) ++ (⟨#[45]⟩ : ByteArray)) ++ t257) ++ (⟨#[45]⟩ : ByteArray)) ++ t258) ++ t259) ++ (⟨#[32]⟩ : ByteArray)) ++ t260).size + 1 ≤ 9223372036854775807
                                                        · rw [if_pos c52] at H
                                                          have c52b0 := eq_true c52
                                                          have c52b1 : decide ((((((((((⟨#[34]⟩ : ByteArray) ++ x8_31) ++ (⟨#[45]⟩ : ByteArray)) ++ t257) ++ (⟨#[45]⟩ : ByteArray)) ++ t258) ++ t259) ++ (⟨#[32]⟩ : ByteArray)) ++ t260).size + 1 ≤ 9223372036854775807) = true := decide_eq_true c52
                                                          try have c52b2 : (9223372036854775807 < (((((((((⟨#[34]⟩ : ByteArray) ++ x8_31) ++ (⟨#[45]⟩ : ByteArray)) ++ t257) ++ (⟨#[45]⟩ : ByteArray)) ++ t258) ++ t259) ++ (⟨#[32]⟩ : ByteArray)) ++ t260).size + 1) = False := eq_false (Nat.not_lt.2 c52)
                                                          try have c52b4 : (9223372036854775807 < 1 + x8_31.size + 1 + t257.size + 1 + t258.size + t259.size + 1 + t260.size + 1) = False := eq_false (Nat.not_lt.2 (by have h_ := c52; simp only [ByteArray.size_append] at h_; exact h_))
                                                          replace H := Option.bind_eq_some_iff.mp H
                                                          obtain ⟨t261, A530, H⟩ := H
                                                          replace H : (if ((((((((((⟨#[34]⟩ : ByteArray) ++ x8_31) ++ (⟨#[45]⟩ : ByteArray)) ++ t257) ++ (⟨#[45]⟩ : ByteArray)) ++ t258) ++ t259) ++ (⟨#[32]⟩ : ByteArray)) ++ t260) ++ (⟨#[58]⟩ : ByteArray)).size + t261.size ≤ 9223372036854775807 then (if (((((((((((⟨#[34]⟩ : ByteArray) ++ x8_31) ++ (⟨#[45]⟩ : ByteArray)) ++ t257) ++ (⟨#[45]⟩ : ByteArray)) ++ t258) ++ t259) ++ (⟨#[32]⟩ : ByteArray)) ++ t260) ++ (⟨#[58]⟩ : ByteArray)) ++ t261).size + 1 ≤ 9223372036854775807 then ((letterboxref11_two.f (Int.tmod x4_11 60)).bind fun t262 => (if ((((((((((((⟨#[34]⟩ : ByteArray) ++ x8_31) ++ (⟨#[45]⟩ : ByteArray)) ++ t257) ++ (⟨#[45]⟩ : ByteArray)) ++ t258) ++ t259) ++ (⟨#[32]⟩ : ByteArray)) ++ t260) ++ (⟨#[58]⟩ : ByteArray)) ++ t261) ++ (⟨#[58]⟩ : ByteArray)).size + t262.size ≤ 9223372036854775807 then (if (((((((((((((⟨#[34]⟩ : ByteArray) ++ x8_31) ++ (⟨#[45]⟩ : ByteArray)) ++ t257) ++ (⟨#[45]⟩ : ByteArray)) ++ t258) ++ t259) ++ (⟨#[32]⟩ : ByteArray)) ++ t260) ++ (⟨#[58]⟩ : ByteArray)) ++ t261) ++ (⟨#[58]⟩ : ByteArray)) ++ t262).size + 1 ≤ 9223372036854775807 then (if ((((((((((((((⟨#[34]⟩ : ByteArray) ++ x8_31) ++ (⟨#[45]⟩ : ByteArray)) ++ t257) ++ (⟨#[45]⟩ : ByteArray)) ++ t258) ++ t259) ++ (⟨#[32]⟩ : ByteArray)) ++ t260) ++ (⟨#[58]⟩ : ByteArray)) ++ t261) ++ (⟨#[58]⟩ : ByteArray)) ++ t262) ++ (⟨#[32]⟩ : ByteArray)).size + x10_36.size ≤ 9223372036854775807 then ((letterboxref11_two.f (wrap64 (Int.tdiv x9_36 60))).bind fun t263 => (if (((((((((((((((⟨#[34]⟩ : ByteArray) ++ x8_31) ++ (⟨#[45]⟩ : ByteArray)) ++ t257) ++ (⟨#[45]⟩ : ByteArray)) ++ t258) ++ t259) ++ (⟨#[32]⟩ : ByteArray)) ++ t260) ++ (⟨#[58]⟩ : ByteArray)) ++ t261) ++ (⟨#[58]⟩ : ByteArray)) ++ t262) ++ (⟨#[32]⟩ : ByteArray)) ++ x10_36).size + t263.size ≤ 9223372036854775807 then ((letterboxref11_two.f (Int.tmod x9_36 60)).bind fun t264 => (if ((((((((((((((((⟨#[34]⟩ : ByteArray) ++ x8_31) ++ (⟨#[45]⟩ : ByteArray)) ++ t257) ++ (⟨#[45]⟩ : ByteArray)) ++ t258) ++ t259) ++ (⟨#[32]⟩ : ByteArray)) ++ t260) ++ (⟨#[58]⟩ : ByteArray)) ++ t261) ++ (⟨#[58]⟩ : ByteArray)) ++ t262) ++ (⟨#[32]⟩ : ByteArray)) ++ x10_36) ++ t263).size + t264.size ≤ 9223372036854775807 then (if (((((((((((((((((⟨#[34]⟩ : ByteArray) ++ x8_31) ++ (⟨#[45]⟩ : ByteArray)) ++ t257) ++ (⟨#[45]⟩ : ByteArray)) ++ t258) ++ t259) ++ (⟨#[32]⟩ : ByteArray)) ++ t260) ++ (⟨#[58]⟩ : ByteArray)) ++ t261) ++ (⟨#[58]⟩ : ByteArray)) ++ t262) ++ (⟨#[32]⟩ : ByteArray)) ++ x10_36) ++ t263) ++ t264).size + 1 ≤ 9223372036854775807 then (some ((((((((((((((((((⟨#[34]⟩ : ByteArray) ++ x8_31) ++ (⟨#[45]⟩ : ByteArray)) ++ t257) ++ (⟨#[45]⟩ : ByteArray)) ++ t258) ++ t259) ++ (⟨#[32]⟩ : ByteArray)) ++ t260) ++ (⟨#[58]⟩ : ByteArray)) ++ t261) ++ (⟨#[58]⟩ : ByteArray)) ++ t262) ++ (⟨#[32]⟩ : ByteArray)) ++ x10_36) ++ t263) ++ t264) ++ (⟨#[34]⟩ : ByteArray))) else (none)) else (none))) else (none))) else (none)) else (none)) else (none))) else (none)) else (none)) = some r := H
                                                          have A53 := Aside0.mk A530
                                                          clear A530
                                                          by_cases c54 : ((((((((((⟨#[34]⟩ : ByteArray) ++ x8_31) ++ (⟨#[45]⟩ : ByteArray)) ++ t257) ++ (⟨#[45]⟩ : ByteArray)) ++ t258) ++ t259) ++ (⟨#[32]⟩ : ByteArray)) ++ t260) ++ (⟨#[58]⟩ : ByteArray)).size + t261.size ≤ 9223372036854775807
                                                          · rw [if_pos c54] at H
                                                            have c54b0 := eq_true c54
                                                            have c54b1 : decide (((((((((((⟨#[34]⟩ : ByteArray) ++ x8_31) ++ (⟨#[45]⟩ : ByteArray)) ++ t257) ++ (⟨#[45]⟩ : ByteArray)) ++ t258) ++ t259) ++ (⟨#[32]⟩ : ByteArray)) ++ t260) ++ (⟨#[58]⟩ : ByteArray)).size + t261.size ≤ 9223372036854775807) = true := decide_eq_true c54
                                                            try have c54b2 : (9223372036854775807 < ((((((((((⟨#[34]⟩ : ByteArray) ++ x8_31) ++ (⟨#[45]⟩ : ByteArray)) ++ t257) ++ (⟨#[45]⟩ : ByteArray)) ++ t258) ++ t259) ++ (⟨#[32]⟩ : ByteArray)) ++ t260) ++ (⟨#[58]⟩ : ByteArray)).size + t261.size) = False := eq_false (Nat.not_lt.2 c54)
                                                            try have c54b4 : (9223372036854775807 < 1 + x8_31.size + 1 + t257.size + 1 + t258.size + t259.size + 1 + t260.size + 1 + t261.size) = False := eq_false (Nat.not_lt.2 (by have h_ := c54; simp only [ByteArray.size_append] at h_; exact h_))
                                                            by_cases c55 : (((((((((((⟨#[34]⟩ : ByteArray) ++ x8_31) ++ (⟨#[45]⟩ : ByteArray)) ++ t257) ++ (⟨#[45]⟩ : ByteArray)) ++ t258) ++ t259) ++ (⟨#[32]⟩ : ByteArray)) ++ t260) ++ (⟨#[58]⟩ : ByteArray)) ++ t261).size + 1 ≤ 9223372036854775807
                                                            · rw [if_pos c55] at H
                                                              have c55b0 := eq_true c55
                                                              have c55b1 : decide ((((((((((((⟨#[34]⟩ : ByteArray) ++ x8_31) ++ (⟨#[45]⟩ : ByteArray)) ++ t257) ++ (⟨#[45]⟩ : ByteArray)) ++ t258) ++ t259) ++ (⟨#[32]⟩ : ByteArray)) ++ t260) ++ (⟨#[58]⟩ : ByteArray)) ++ t261).size + 1 ≤ 9223372036854775807) = true := decide_eq_true c55
                                                              try have c55b2 : (9223372036854775807 < (((((((((((⟨#[34]⟩ : ByteArray) ++ x8_31) ++ (⟨#[45]⟩ : ByteArray)) ++ t257) ++ (⟨#[45]⟩ : ByteArray)) ++ t258) ++ t259) ++ (⟨#[32]⟩ : ByteArray)) ++ t260) ++ (⟨#[58]⟩ : ByteArray)) ++ t261).size + 1) = False := eq_false (Nat.not_lt.2 c55)
                                                              try have c55b4 : (9223372036854775807 < 1 + x8_31.size + 1 + t257.size + 1 + t258.size + t259.size + 1 + t260.size + 1 + t261.size + 1) = False := eq_false (Nat.not_lt.2 (by have h_ := c55; simp only [ByteArray.size_append] at h_; exact h_))
                                                              replace H := Option.bind_eq_some_iff.mp H
                                                              obtain ⟨t262, A560, H⟩ := H
                                                              replace H : (if ((((((((((((⟨#[34]⟩ : ByteArray) ++ x8_31) ++ (⟨#[45]⟩ : ByteArray)) ++ t257) ++ (⟨#[45]⟩ : ByteArray)) ++ t258) ++ t259) ++ (⟨#[32]⟩ : ByteArray)) ++ t260) ++ (⟨#[58]⟩ : ByteArray)) ++ t261) ++ (⟨#[58]⟩ : ByteArray)).size + t262.size ≤ 9223372036854775807 then (if (((((((((((((⟨#[34]⟩ : ByteArray) ++ x8_31) ++ (⟨#[45]⟩ : ByteArray)) ++ t257) ++ (⟨#[45]⟩ : ByteArray)) ++ t258) ++ t259) ++ (⟨#[32]⟩ : ByteArray)) ++ t260) ++ (⟨#[58]⟩ : ByteArray)) ++ t261) ++ (⟨#[58]⟩ : ByteArray)) ++ t262).size + 1 ≤ 9223372036854775807 then (if ((((((((((((((⟨#[34]⟩ : ByteArray) ++ x8_31) ++ (⟨#[45]⟩ : ByteArray)) ++ t257) ++ (⟨#[45]⟩ : ByteArray)) ++ t258) ++ t259) ++ (⟨#[32]⟩ : ByteArray)) ++ t260) ++ (⟨#[58]⟩ : ByteArray)) ++ t261) ++ (⟨#[58]⟩ : ByteArray)) ++ t262) ++ (⟨#[32]⟩ : ByteArray)).size + x10_36.size ≤ 9223372036854775807 then ((letterboxref11_two.f (wrap64 (Int.tdiv x9_36 60))).bind fun t263 => (if (((((((((((((((⟨#[34]⟩ : ByteArray) ++ x8_31) ++ (⟨#[45]⟩ : ByteArray)) ++ t257) ++ (⟨#[45]⟩ : ByteArray)) ++ t258) ++ t259) ++ (⟨#[32]⟩ : ByteArray)) ++ t260) ++ (⟨#[58]⟩ : ByteArray)) ++ t261) ++ (⟨#[58]⟩ : ByteArray)) ++ t262) ++ (⟨#[32]⟩ : ByteArray)) ++ x10_36).size + t263.size ≤ 9223372036854775807 then ((letterboxref11_two.f (Int.tmod x9_36 60)).bind fun t264 => (if ((((((((((((((((⟨#[34]⟩ : ByteArray) ++ x8_31) ++ (⟨#[45]⟩ : ByteArray)) ++ t257) ++ (⟨#[45]⟩ : ByteArray)) ++ t258) ++ t259) ++ (⟨#[32]⟩ : ByteArray)) ++ t260) ++ (⟨#[58]⟩ : ByteArray)) ++ t261) ++ (⟨#[58]⟩ : ByteArray)) ++ t262) ++ (⟨#[32]⟩ : ByteArray)) ++ x10_36) ++ t263).size + t264.size ≤ 9223372036854775807 then (if (((((((((((((((((⟨#[34]⟩ : ByteArray) ++ x8_31) ++ (⟨#[45]⟩ : ByteArray)) ++ t257) ++ (⟨#[45]⟩ : ByteArray)) ++ t258) ++ t259) ++ (⟨#[32]⟩ : ByteArray)) ++ t260) ++ (⟨#[58]⟩ : ByteArray)) ++ t261) ++ (⟨#[58]⟩ : ByteArray)) ++ t262) ++ (⟨#[32]⟩ : ByteArray)) ++ x10_36) ++ t263) ++ t264).size + 1 ≤ 9223372036854775807 then (some ((((((((((((((((((⟨#[34]⟩ : ByteArray) ++ x8_31) ++ (⟨#[45]⟩ : ByteArray)) ++ t257) ++ (⟨#[45]⟩ : ByteArray)) ++ t258) ++ t259) ++ (⟨#[32]⟩ : ByteArray)) ++ t260) ++ (⟨#[58]⟩ : ByteArray)) ++ t261) ++ (⟨#[58]⟩ : ByteArray)) ++ t262) ++ (⟨#[32]⟩ : ByteArray)) ++ x10_36) ++ t263) ++ t264) ++ (⟨#[34]⟩ : ByteArray))) else (none)) else (none))) else (none))) else (none)) else (none)) else (none)) = some r := H
                                                              have A56 := Aside0.mk A560
                                                              clear A560
                                                              by_cases c57 : ((((((((((((⟨#[34]⟩ : ByteArray) ++ x8_31) ++ (⟨#[45]⟩ : ByteArray)) ++ t257) ++ (⟨#[45]⟩ : ByteArray)) ++ t258) ++ t259) ++ (⟨#[32]⟩ : ByteArray)) ++ t260) ++ (⟨#[58]⟩ : ByteArray)) ++ t261) ++ (⟨#[58]⟩ : ByteArray)).size + t262.size ≤ 9223372036854775807
                                                              · rw [if_pos c57] at H
                                                                have c57b0 := eq_true c57
                                                                have c57b1 : decide (((((((((((((⟨#[34]⟩ : ByteArray) ++ x8_31) ++ (⟨#[45]⟩ : ByteArray)) ++ t257) ++ (⟨#[45]⟩ : ByteArray)) ++ t258) ++ t259) ++ (⟨#[32]⟩ : ByteArray)) ++ t260) ++ (⟨#[58]⟩ : ByteArray)) ++ t261) ++ (⟨#[58]⟩ : ByteArray)).size + t262.size ≤ 9223372036854775807) = true := decide_eq_true c57
                                                                try have c57b2 : (9223372036854775807 < ((((((((((((⟨#[34]⟩ : ByteArray) ++ x8_31) ++ (⟨#[45]⟩ : ByteArray)) ++ t257) ++ (⟨#[45]⟩ : ByteArray)) ++ t258) ++ t259) ++ (⟨#[32]⟩ : ByteArray)) ++ t260) ++ (⟨#[58]⟩ : ByteArray)) ++ t261) ++ (⟨#[58]⟩ : ByteArray)).size + t262.size) = False := eq_false (Nat.not_lt.2 c57)
                                                                try have c57b4 : (9223372036854775807 < 1 + x8_31.size + 1 + t257.size + 1 + t258.size + t259.size + 1 + t260.size + 1 + t261.size + 1 + t262.size) = False := eq_false (Nat.not_lt.2 (by have h_ := c57; simp only [ByteArray.size_append] at h_; exact h_))
                                                                by_cases c58 : (((((((((((((⟨#[34]⟩ : ByteArray) ++ x8_31) ++ (⟨#[45]⟩ : ByteArray)) ++ t257) ++ (⟨#[45]⟩ : ByteArray)) ++ t258) ++ t259) ++ (⟨#[32]⟩ : ByteArray)) ++ t260) ++ (⟨#[58]⟩ : ByteArray)) ++ t261) ++ (⟨#[58]⟩ : ByteArray)) ++ t262).size + 1 ≤ 9223372036854775807
                                                                · rw [if_pos c58] at H
                                                                  have c58b0 := eq_true c58
                                                                  have c58b1 : decide ((((((((((((((⟨#[34]⟩ : ByteArray) ++ x8_31) ++ (⟨#[45]⟩ : ByteArray)) ++ t257) ++ (⟨#[45]⟩ : ByteArray)) ++ t258) ++ t259) ++ (⟨#[32]⟩ : ByteArray)) ++ t260) ++ (⟨#[58]⟩ : ByteArray)) ++ t261) ++ (⟨#[58]⟩ : ByteArray)) ++ t262).size + 1 ≤ 9223372036854775807) = true := decide_eq_true c58
                                                                  try have c58b2 : (9223372036854775807 < (((((((((((((⟨#[34]⟩ : ByteArray) ++ x8_31) ++ (⟨#[45]⟩ : ByteArray)) ++ t257) ++ (⟨#[45]⟩ : ByteArray)) ++ t258) ++ t259) ++ (⟨#[32]⟩ : ByteArray)) ++ t260) ++ (⟨#[58]⟩ : ByteArray)) ++ t261) ++ (⟨#[58]⟩ : ByteArray)) ++ t262).size + 1) = False := eq_false (Nat.not_lt.2 c58)
                                                                  try have c58b4 : (9223372036854775807 < 1 + x8_31.size + 1 + t257.size + 1 + t258.size + t259.size + 1 + t260.size + 1 + t261.size + 1 + t262.size + 1) = False := eq_false (Nat.not_lt.2 (by have h_ := c58; simp only [ByteArray.size_append] at h_; exact h_))
                                                                  by_cases c59 : ((((((((((((((⟨#[34]⟩ : ByteArray) ++ x8_31) ++ (⟨#[45]⟩ : ByteArray)) ++ t257) ++ (⟨#[45]⟩ : ByteArray)) ++ t258) ++ t259) ++ (⟨#[32]⟩ : ByteArray)) ++ t260) ++ (⟨#[58]⟩ : ByteArray)) ++ t261) ++ (⟨#[58]⟩ : ByteArray)) ++ t262) ++ (⟨#[32]⟩ : ByteArray)).size + x10_36.size ≤ 9223372036854775807
                                                                  · rw [if_pos c59] at H
                                                                    have c59b0 := eq_true c59
                                                                    have c59b1 : decide (((((((((((((((⟨#[34]⟩ : ByteArray) ++ x8_31) ++ (⟨#[45]⟩ : ByteArray)) ++ t257) ++ (⟨#[45]⟩ : ByteArray)) ++ t258) ++ t259) ++ (⟨#[32]⟩ : ByteArray)) ++ t260) ++ (⟨#[58]⟩ : ByteArray)) ++ t261) ++ (⟨#[58]⟩ : ByteArray)) ++ t262) ++ (⟨#[32]⟩ : ByteArray)).size + x10_36.size ≤ 9223372036854775807) = true := decide_eq_true c59
                                                                    try have c59b2 : (9223372036854775807 < ((((((((((((((⟨#[34]⟩ : ByteArray) ++ x8_31) ++ (⟨#[45]⟩ : ByteArray)) ++ t257) ++ (⟨#[45]⟩ : ByteArray)) ++ t258) ++ t259) ++ (⟨#[32]⟩ : ByteArray)) ++ t260) ++ (⟨#[58]⟩ : ByteArray)) ++ t261) ++ (⟨#[58]⟩ : ByteArray)) ++ t262) ++ (⟨#[32]⟩ : ByteArray)).size + x10_36.size) = False := eq_false (Nat.not_lt.2 c59)
                                                                    try have c59b4 : (9223372036854775807 < 1 + x8_31.size + 1 + t257.size + 1 + t258.size + t259.size + 1 + t260.size + 1 + t261.size + 1 + t262.size + 1 + x10_36.size) = False := eq_false (Nat.not_lt.2 (by have h_ := c59; simp only [ByteArray.size_append] at h_; exact h_))
                                                                    replace H := Option.bind_eq_some_iff.mp H
                                                                    obtain ⟨t263, A600, H⟩ := H
                                                                    replace H : (if (((((((((((((((⟨#[34]⟩ : ByteArray) ++ x8_31) ++ (⟨#[45]⟩ : ByteArray)) ++ t257) ++ (⟨#[45]⟩ : ByteArray)) ++ t258) ++ t259) ++ (⟨#[32]⟩ : ByteArray)) ++ t260) ++ (⟨#[58]⟩ : ByteArray)) ++ t261) ++ (⟨#[58]⟩ : ByteArray)) ++ t262) ++ (⟨#[32]⟩ : ByteArray)) ++ x10_36).size + t263.size ≤ 9223372036854775807 then ((letterboxref11_two.f (Int.tmod x9_36 60)).bind fun t264 => (if ((((((((((((((((⟨#[34]⟩ : ByteArray) ++ x8_31) ++ (⟨#[45]⟩ : ByteArray)) ++ t257) ++ (⟨#[45]⟩ : ByteArray)) ++ t258) ++ t259) ++ (⟨#[32]⟩ : ByteArray)) ++ t260) ++ (⟨#[58]⟩ : ByteArray)) ++ t261) ++ (⟨#[58]⟩ : ByteArray)) ++ t262) ++ (⟨#[32]⟩ : ByteArray)) ++ x10_36) ++ t263).size + t264.size ≤ 9223372036854775807 then (if (((((((((((((((((⟨#[34]⟩ : ByteArray) ++ x8_31) ++ (⟨#[45]⟩ : ByteArray)) ++ t257) ++ (⟨#[45]⟩ : ByteArray)) ++ t258) ++ t259) ++ (⟨#[32]⟩ : ByteArray)) ++ t260) ++ (⟨#[58]⟩ : ByteArray)) ++ t261) ++ (⟨#[58]⟩ : ByteArray)) ++ t262) ++ (⟨#[32]⟩ : ByteArray)) ++ x10_36) ++ t263) ++ t264).size + 1 ≤ 9223372036854775807 then (some ((((((((((((((((((⟨#[34]⟩ : ByteArray) ++ x8_31) ++ (⟨#[45]⟩ : ByteArray)) ++ t257) ++ (⟨#[45]⟩ : ByteArray)) ++ t258) ++ t259) ++ (⟨#[32]⟩ : ByteArray)) ++ t260) ++ (⟨#[58]⟩ : ByteArray)) ++ t261) ++ (⟨#[58]⟩ : ByteArray)) ++ t262) ++ (⟨#[32]⟩ : ByteArray)) ++ x10_36) ++ t263) ++ t264) ++ (⟨#[34]⟩ : ByteArray))) else (none)) else (none))) else (none)) = some r := H
                                                                    have A60 := Aside0.mk A600
                                                                    clear A600
                                                                    by_cases c61 : (((((((((((((((⟨#[34]⟩ : ByteArray) ++ x8_31) ++ (⟨#[45]⟩ : ByteArray)) ++ t257) ++ (⟨#[45]⟩ : ByteArray)) ++ t258) ++ t259) ++ (⟨#[32]⟩ : ByteArray)) ++ t260) ++ (⟨#[58]⟩ : ByteArray)) ++ t261) ++ (⟨#[58]⟩ : ByteArray)) ++ t262) ++ (⟨#[32]⟩ : ByteArray)) ++ x10_36).size + t263.size ≤ 9223372036854775807
                                                                    · rw [if_pos c61] at H
                                                                      have c61b0 := eq_true c61
                                                                      have c61b1 : decide ((((((((((((((((⟨#[34]⟩ : ByteArray) ++ x8_31) ++ (⟨#[45]⟩ : ByteArray)) ++ t257) ++ (⟨#[45]⟩ : ByteArray)) ++ t258) ++ t259) ++ (⟨#[32]⟩ : ByteArray)) ++ t260) ++ (⟨#[58]⟩ : ByteArray)) ++ t261) ++ (⟨#[58]⟩ : ByteArray)) ++ t262) ++ (⟨#[32]⟩ : ByteArray)) ++ x10_36).size + t263.size ≤ 9223372036854775807) = true := decide_eq_true c61
                                                                      try have c61b2 : (9223372036854775807 < (((((((((((((((⟨#[34]⟩ : ByteArray) ++ x8_31) ++ (⟨#[45]⟩ : ByteArray)) ++ t257) ++ (⟨#[45]⟩ : ByteArray)) ++ t258) ++ t259) ++ (⟨#[32]⟩ : ByteArray)) ++ t260) ++ (⟨#[58]⟩ : ByteArray)) ++ t261) ++ (⟨#[58]⟩ : ByteArray)) ++ t262) ++ (⟨#[32]⟩ : ByteArray)) ++ x10_36).size + t263.size) = False := eq_false (Nat.not_lt.2 c61)
                                                                      try have c61b4 : (9223372036854775807 < 1 + x8_31.size + 1 + t257.size + 1 + t258.size + t259.size + 1 + t260.size + 1 + t261.size + 1 + t262.size + 1 + x10_36.size + t263.size) = False := eq_false (Nat.not_lt.2 (by have h_ := c61; simp only [ByteArray.size_append] at h_; exact h_))
                                                                      replace H := Option.bind_eq_some_iff.mp H
                                                                      obtain ⟨t264, A620, H⟩ := H
                                                                      replace H : (if ((((((((((((((((⟨#[34]⟩ : ByteArray) ++ x8_31) ++ (⟨#[45]⟩ : ByteArray)) ++ t257) ++ (⟨#[45]⟩ : ByteArray)) ++ t258) ++ t259) ++ (⟨#[32]⟩ : ByteArray)) ++ t260) ++ (⟨#[58]⟩ : ByteArray)) ++ t261) ++ (⟨#[58]⟩ : ByteArray)) ++ t262) ++ (⟨#[32]⟩ : ByteArray)) ++ x10_36) ++ t263).size + t264.size ≤ 9223372036854775807 then (if (((((((((((((((((⟨#[34]⟩ : ByteArray) ++ x8_31) ++ (⟨#[45]⟩ : ByteArray)) ++ t257) ++ (⟨#[45]⟩ : ByteArray)) ++ t258) ++ t259) ++ (⟨#[32]⟩ : ByteArray)) ++ t260) ++ (⟨#[58]⟩ : ByteArray)) ++ t261) ++ (⟨#[58]⟩ : ByteArray)) ++ t262) ++ (⟨#[32]⟩ : ByteArray)) ++ x10_36) ++ t263) ++ t264).size + 1 ≤ 9223372036854775807 then (some ((((((((((((((((((⟨#[34]⟩ : ByteArray) ++ x8_31) ++ (⟨#[45]⟩ : ByteArray)) ++ t257) ++ (⟨#[45]⟩ : ByteArray)) ++ t258) ++ t259) ++ (⟨#[32]⟩ : ByteArray)) ++ t260) ++ (⟨#[58]⟩ : ByteArray)) ++ t261) ++ (⟨#[58]⟩ : ByteArray)) ++ t262) ++ (⟨#[32]⟩ : ByteArray)) ++ x10_36) ++ t263) ++ t264) ++ (⟨#[34]⟩ : ByteArray))) else (none)) else (none)) = some r := H
                                                                      have A62 := Aside0.mk A620
                                                                      clear A620
                                                                      by_cases c63 : ((((((((((((((((⟨#[34]⟩ : ByteArray) ++ x8_31) ++ (⟨#[45]⟩ : ByteArray)) ++ t257) ++ (⟨#[45]⟩ : ByteArray)) ++ t258) ++ t259) ++ (⟨#[32]⟩ : ByteArray)) ++ t260) ++ (⟨#[58]⟩ : ByteArray)) ++ t261) ++ (⟨#[58]⟩ : ByteArray)) ++ t262) ++ (⟨#[32]⟩ : ByteArray)) ++ x10_36) ++ t263).size + t264.size ≤ 9223372036854775807
                                                                      · rw [if_pos c63] at H
                                                                        have c63b0 := eq_true c63
                                                                        have c63b1 : decide (((((((((((((((((⟨#[34]⟩ : ByteArray) ++ x8_31) ++ (⟨#[45]⟩ : ByteArray)) ++ t257) ++ (⟨#[45]⟩ : ByteArray)) ++ t258) ++ t259) ++ (⟨#[32]⟩ : ByteArray)) ++ t260) ++ (⟨#[58]⟩ : ByteArray)) ++ t261) ++ (⟨#[58]⟩ : ByteArray)) ++ t262) ++ (⟨#[32]⟩ : ByteArray)) ++ x10_36) ++ t263).size + t264.size ≤ 9223372036854775807) = true := decide_eq_true c63
                                                                        try have c63b2 : (9223372036854775807 < ((((((((((((((((⟨#[34]⟩ : ByteArray) ++ x8_31) ++ (⟨#[45]⟩ : ByteArray)) ++ t257) ++ (⟨#[45]⟩ : ByteArray)) ++ t258) ++ t259) ++ (⟨#[32]⟩ : ByteArray)) ++ t260) ++ (⟨#[58]⟩ : ByteArray)) ++ t261) ++ (⟨#[58]⟩ : ByteArray)) ++ t262) ++ (⟨#[32]⟩ : ByteArray)) ++ x10_36) ++ t263).size + t264.size) = False := eq_false (Nat.not_lt.2 c63)
                                                                        try have c63b4 : (9223372036854775807 < 1 + x8_31.size + 1 + t257.size + 1 + t258.size + t259.size + 1 + t260.size + 1 + t261.size + 1 + t262.size + 1 + x10_36.size + t263.size + t264.size) = False := eq_false (Nat.not_lt.2 (by have h_ := c63; simp only [ByteArray.size_append] at h_; exact h_))
                                                                        by_cases c64 : (((((((((((((((((⟨#[34]⟩ : ByteArray) ++ x8_31) ++ (⟨#[45]⟩ : ByteArray)) ++ t257) ++ (⟨#[45]⟩ : ByteArray)) ++ t258) ++ t259) ++ (⟨#[32]⟩ : ByteArray)) ++ t260) ++ (⟨#[58]⟩ : ByteArray)) ++ t261) ++ (⟨#[58]⟩ : ByteArray)) ++ t262) ++ (⟨#[32]⟩ : ByteArray)) ++ x10_36) ++ t263) ++ t264).size + 1 ≤ 9223372036854775807
                                                                        · rw [if_pos c64] at H
                                                                          have c64b0 := eq_true c64
                                                                          have c64b1 : decide ((((((((((((((((((⟨#[34]⟩ : ByteArray) ++ x8_31) ++ (⟨#[45]⟩ : ByteArray)) ++ t257) ++ (⟨#[45]⟩ : ByteArray)) ++ t258) ++ t259) ++ (⟨#[32]⟩ : ByteArray)) ++ t260) ++ (⟨#[58]⟩ : ByteArray)) ++ t261) ++ (⟨#[58]⟩ : ByteArray)) ++ t262) ++ (⟨#[32]⟩ : ByteArray)) ++ x10_36) ++ t263) ++ t264).size + 1 ≤ 9223372036854775807) = true := decide_eq_true c64
                                                                          try have c64b2 : (9223372036854775807 < (((((((((((((((((⟨#[34]⟩ : ByteArray) ++ x8_31) ++ (⟨#[45]⟩ : ByteArray)) ++ t257) ++ (⟨#[45]⟩ : ByteArray)) ++ t258) ++ t259) ++ (⟨#[32]⟩ : ByteArray)) ++ t260) ++ (⟨#[58]⟩ : ByteArray)) ++ t261) ++ (⟨#[58]⟩ : ByteArray)) ++ t262) ++ (⟨#[32]⟩ : ByteArray)) ++ x10_36) ++ t263) ++ t264).size + 1) = False := eq_false (Nat.not_lt.2 c64)
                                                                          try have c64b4 : (9223372036854775807 < 1 + x8_31.size + 1 + t257.size + 1 + t258.size + t259.size + 1 + t260.size + 1 + t261.size + 1 + t262.size + 1 + x10_36.size + t263.size + t264.size + 1) = False := eq_false (Nat.not_lt.2 (by have h_ := c64; simp only [ByteArray.size_append] at h_; exact h_))
                                                                          obtain rfl := Option.some.inj H
                                                                          go_wp2_with (first | ((with_reducible refine gate_callee (f := 45) rfl ?_); refine goesL_ (some 113) rfl rfl Tryd.func45 (by kernel_rfl) rfl #[.int .i64 x7_6] rfl (by (try simp only [List.map_toArray, List.map_cons, List.map_nil]); first | done | rfl | (simp only [List.length_drop, List.length_take]; rfl)) ?_; (with_reducible refine (letterboxref11_name.calls x7_6 t257 _ A42.out).mono ?_); rintro e w' ⟨rfl, ⟨nd, rfl⟩⟩; refine ⟨_, rfl, ?_⟩) | ((with_reducible refine gate_callee (f := 44) rfl ?_); refine goesL_ (some 118) rfl rfl Tryd.func44 (by kernel_rfl) rfl #[.int .i64 (wrap64 (Int.tdiv x6_18 100))] rfl (by (try simp only [List.map_toArray, List.map_cons, List.map_nil]); first | done | rfl | (simp only [List.length_drop, List.length_take]; rfl)) ?_; (with_reducible refine (letterboxref11_two.calls (wrap64 (Int.tdiv x6_18 100)) t258 _ A45.out).mono ?_); rintro e w65 ⟨rfl, hb⟩; refine ⟨_, rfl, ?_⟩; have n0_ := Aside0.mk (blk_below (g := gb250) (o := .cells #[.int .i64 a0_0, .int .i64 a0_1] 27 (0, 0)) (by (with_reducible repeat (first | refine blk_drewN ?_ _ | refine blk_drew ?_ | refine blk_alloc ?_ _)); exact BK250.out) hb); have n1_ := Aside0.mk (below_step (by repeat (first | (with_reducible first | exact HB.out | apply below_alloc | apply pw_below_drewN | apply below_drew1 | refine below_set ?_ GE250.out) | exact HB.out)) hb); clear BK250; clear HB; have BK250 := n0_; have HB := n1_; clear n0_ n1_; (try clear hb); (try clear hb2); (try clear hk); (try clear hi)) | ((with_reducible refine gate_callee (f := 44) rfl ?_); refine goesL_ (some 122) rfl rfl Tryd.func44 (by kernel_rfl) rfl #[.int .i64 (Int.tmod x6_18 100)] rfl (by (try simp only [List.map_toArray, List.map_cons, List.map_nil]); first | done | rfl | (simp only [List.length_drop, List.length_take]; rfl)) ?_; (with_reducible refine (letterboxref11_two.calls (Int.tmod x6_18 100) t259 _ A47.out).mono ?_); rintro e w66 ⟨rfl, hb⟩; refine ⟨_, rfl, ?_⟩; have n0_ := Aside0.mk (blk_below (g := gb250) (o := .cells #[.int .i64 a0_0, .int .i64 a0_1] 27 (0, 0)) (by (with_reducible repeat (first | refine blk_drewN ?_ _ | refine blk_drew ?_ | refine blk_alloc ?_ _)); exact BK250.out) hb); have n1_ := Aside0.mk (below_step (by repeat (first | (with_reducible first | exact HB.out | apply below_alloc | apply pw_below_drewN | apply below_drew1 | refine below_set ?_ GE250.out) | exact HB.out)) hb); clear BK250; clear HB; have BK250 := n0_; have HB := n1_; clear n0_ n1_; (try clear hb); (try clear hb2); (try clear hk); (try clear hi)) | ((with_reducible refine gate_callee (f := 44) rfl ?_); refine goesL_ (some 127) rfl rfl Tryd.func44 (by kernel_rfl) rfl #[.int .i64 (wrap64 (Int.tdiv x4_11 3600))] rfl (by (try simp only [List.map_toArray, List.map_cons, List.map_nil]); first | done | rfl | (simp only [List.length_drop, List.length_take]; rfl)) ?_; (with_reducible refine (letterboxref11_two.calls (wrap64 (Int.tdiv x4_11 3600)) t260 _ A50.out).mono ?_); rintro e w67 ⟨rfl, hb⟩; refine ⟨_, rfl, ?_⟩; have n0_ := Aside0.mk (blk_below (g := gb250) (o := .cells #[.int .i64 a0_0, .int .i64 a0_1] 27 (0, 0)) (by (with_reducible repeat (first | refine blk_drewN ?_ _ | refine blk_drew ?_ | refine blk_alloc ?_ _)); exact BK250.out) hb); have n1_ := Aside0.mk (below_step (by repeat (first | (with_reducible first | exact HB.out | apply below_alloc | apply pw_below_drewN | apply below_drew1 | refine below_set ?_ GE250.out) | exact HB.out)) hb); clear BK250; clear HB; have BK250 := n0_; have HB := n1_; clear n0_ n1_; (try clear hb); (try clear hb2); (try clear hk); (try clear hi)) | ((with_reducible refine gate_callee (f := 44) rfl ?_); refine goesL_ (some 133) rfl rfl Tryd.func44 (by kernel_rfl) rfl #[.int .i64 (Int.tmod (wrap64 (Int.tdiv x4_11 60)) 60)] rfl (by (try simp only [List.map_toArray, List.map_cons, List.map_nil]); first | done | rfl | (simp only [List.length_drop, List.length_take]; rfl)) ?_; (with_reducible refine (letterboxref11_two.calls (Int.tmod (wrap64 (Int.tdiv x4_11 60)) 60) t261 _ A53.out).mono ?_); rintro e w68 ⟨rfl, hb⟩; refine ⟨_, rfl, ?_⟩; have n0_ := Aside0.mk (blk_below (g := gb250) (o := .cells #[.int .i64 a0_0, .int .i64 a0_1] 27 (0, 0)) (by (with_reducible repeat (first | refine blk_drewN ?_ _ | refine blk_drew ?_ | refine blk_alloc ?_ _)); exact BK250.out) hb); have n1_ := Aside0.mk (below_step (by repeat (first | (with_reducible first | exact HB.out | apply below_alloc | apply pw_below_drewN | apply below_drew1 | refine below_set ?_ GE250.out) | exact HB.out)) hb); clear BK250; clear HB; have BK250 := n0_; have HB := n1_; clear n0_ n1_; (try clear hb); (try clear hb2); (try clear hk); (try clear hi)) | ((with_reducible refine gate_callee (f := 44) rfl ?_); refine goesL_ (some 138) rfl rfl Tryd.func44 (by kernel_rfl) rfl #[.int .i64 (Int.tmod x4_11 60)] rfl (by (try simp only [List.map_toArray, List.map_cons, List.map_nil]); first | done | rfl | (simp only [List.length_drop, List.length_take]; rfl)) ?_; (with_reducible refine (letterboxref11_two.calls (Int.tmod x4_11 60) t262 _ A56.out).mono ?_); rintro e w69 ⟨rfl, hb⟩; refine ⟨_, rfl, ?_⟩; have n0_ := Aside0.mk (blk_below (g := gb250) (o := .cells #[.int .i64 a0_0, .int .i64 a0_1] 27 (0, 0)) (by (with_reducible repeat (first | refine blk_drewN ?_ _ | refine blk_drew ?_ | refine blk_alloc ?_ _)); exact BK250.out) hb); have n1_ := Aside0.mk (below_step (by repeat (first | (with_reducible first | exact HB.out | apply below_alloc | apply pw_below_drewN | apply below_drew1 | refine below_set ?_ GE250.out) | exact HB.out)) hb); clear BK250; clear HB; have BK250 := n0_; have HB := n1_; clear n0_ n1_; (try clear hb); (try clear hb2); (try clear hk); (try clear hi)) | ((with_reducible refine gate_callee (f := 44) rfl ?_); refine goesL_ (some 145) rfl rfl Tryd.func44 (by kernel_rfl) rfl #[.int .i64 (wrap64 (Int.tdiv x9_36 60))] rfl (by (try simp only [List.map_toArray, List.map_cons, List.map_nil]); first | done | rfl | (simp only [List.length_drop, List.length_take]; rfl)) ?_; (with_reducible refine (letterboxref11_two.calls (wrap64 (Int.tdiv x9_36 60)) t263 _ A60.out).mono ?_); rintro e w70 ⟨rfl, hb⟩; refine ⟨_, rfl, ?_⟩; have n0_ := Aside0.mk (blk_below (g := gb250) (o := .cells #[.int .i64 a0_0, .int .i64 a0_1] 27 (0, 0)) (by (with_reducible repeat (first | refine blk_drewN ?_ _ | refine blk_drew ?_ | refine blk_alloc ?_ _)); exact BK250.out) hb); have n1_ := Aside0.mk (below_step (by repeat (first | (with_reducible first | exact HB.out | apply below_alloc | apply pw_below_drewN | apply below_drew1 | refine below_set ?_ GE250.out) | exact HB.out)) hb); clear BK250; clear HB; have BK250 := n0_; have HB := n1_; clear n0_ n1_; (try clear hb); (try clear hb2); (try clear hk); (try clear hi)) | ((with_reducible refine gate_callee (f := 44) rfl ?_); refine goesL_ (some 149) rfl rfl Tryd.func44 (by kernel_rfl) rfl #[.int .i64 (Int.tmod x9_36 60)] rfl (by (try simp only [List.map_toArray, List.map_cons, List.map_nil]); first | done | rfl | (simp only [List.length_drop, List.length_take]; rfl)) ?_; (with_reducible refine (letterboxref11_two.calls (Int.tmod x9_36 60) t264 _ A62.out).mono ?_); rintro e w71 ⟨rfl, hb⟩; refine ⟨_, rfl, ?_⟩; have n0_ := Aside0.mk (blk_below (g := gb250) (o := .cells #[.int .i64 a0_0, .int .i64 a0_1] 27 (0, 0)) (by (with_reducible repeat (first | refine blk_drewN ?_ _ | refine blk_drew ?_ | refine blk_alloc ?_ _)); exact BK250.out) hb); have n1_ := Aside0.mk (below_step (by repeat (first | (with_reducible first | exact HB.out | apply below_alloc | apply pw_below_drewN | apply below_drew1 | refine below_set ?_ GE250.out) | exact HB.out)) hb); clear BK250; clear HB; have BK250 := n0_; have HB := n1_; clear n0_ n1_; (try clear hb); (try clear hb2); (try clear hk); (try clear hi)))
                                                                          go_ret
                                                                          exact ⟨by first | rfl | (simp [errW_none, errW_some] <;> rfl) | (simp [*, errW_none, errW_some] <;> rfl), by repeat (first | (with_reducible first | exact HB.out | apply below_alloc | apply pw_below_drewN | apply below_drew1 | refine below_set ?_ GE250.out) | exact HB.out)⟩
                                                                        · rw [if_neg c64] at H
                                                                          exact absurd H (by simp)
                                                                      · rw [if_neg c63] at H
                                                                        exact absurd H (by simp)
                                                                    · rw [if_neg c61] at H
                                                                      exact absurd H (by simp)
                                                                  · rw [if_neg c59] at H
                                                                    exact absurd H (by simp)
                                                                · rw [if_neg c58] at H
                                                                  exact absurd H (by simp)
                                                              · rw [if_neg c57] at H
                                                                exact absurd H (by simp)
                                                            · rw [if_neg c55] at H
                                                              exact absurd H (by simp)
                                                          · rw [if_neg c54] at H
                                                            exact absurd H (by simp)
                                                        · rw [if_neg c52] at H
                                                          exact absurd H (by simp)
                                                      · rw [if_neg c51] at H
                                                        exact absurd H (by simp)
                                                    · rw [if_neg c49] at H
                                                      exact absurd H (by simp)
                                                  · rw [if_neg c48] at H
                                                    exact absurd H (by simp)
                                                · rw [if_neg c46] at H
                                                  exact absurd H (by simp)
                                              · rw [if_neg c44] at H
                                                exact absurd H (by simp)
                                            · rw [if_neg c43] at H
                                              exact absurd H (by simp)
                                          · rw [if_neg c41] at H
                                            exact absurd H (by simp)
                                        · rw [if_neg c40] at H
                                          exact absurd H (by simp)

end Go.Proofs.YtmbiggcapakjjaaDoor.P
