-- Written by a program of this session (wip/tools/mk.sh) for this claim: it runs the kit's print with contracts of our own. Lean checks it.
import Derived.Test.YtfpdamppppbkiaaPx0
import Derived.Test.YtfpdamppppbkiaaPx1
namespace Go.Proofs.Ytfpdamppppbkiaa.P
open Go.RowKit Go.Proofs.YtfpdamppppbkiaaW.PrintWords Go.Proofs.YtfpdamppppbkiaaW.PrintLast Go.Proofs.YtfpdamppppbkiaaW.PrintMore
attribute [-simp] Int.tmod_tmod_of_dvd
attribute [local go_sem] max2_int min2_int max_two min_two max_three min_three max_four min_four   -- for this text's walks alone
set_option linter.unusedVariables false
set_option linter.unusedSimpArgs false

/-! ### letterboxlaw05_LinesJoined: function 4 -/
mutual
def letterboxlaw05_LinesJoined.j0 : Nat → List ByteArray → List Int → Bool → Bool → Option (Bool)
  | 0, _, _, _, _ => none
  | k + 1, x0, x1, x2, x27 => if x27 = true then (some true) else (letterboxlaw05_LinesJoined.l0 k x0 x1 x2 (⟨#[]⟩ : ByteArray) ([] : List ByteArray) 0)
def letterboxlaw05_LinesJoined.j5 : Nat → ByteArray → List ByteArray → Option (Bool)
  | 0, _, _ => none
  | k + 1, x8, x9 => if x8.size ≤ 9223372036854775807 then ((lines_Of.f (bytesOf x8) 0 (x8.size : Int)).bind fun t139 => (if (t139.length : Int) = (x9.length : Int) then (letterboxlaw05_LinesJoined.l2 k x8 x9 t139 0) else (some false))) else (none)
def letterboxlaw05_LinesJoined.l2 : Nat → ByteArray → List ByteArray → List (S29) → Int → Option (Bool)
  | 0, _, _, _, _ => none
  | k + 1, x8, x9, x13, x14 => if x14 < (x13.length : Int) then (if x8.size ≤ 9223372036854775807 then (if 0 ≤ x14 then ((lines_Text.f (bytesOf x8) ((rd_T29 x13 x14).f0) ((rd_T29 x13 x14).f1) ((rd_T29 x13 x14).f2)).bind fun t146 => (if x14 < (x9.length : Int) then (if t146.toList = (rdOf ByteArray.empty x9 x14).toList then (letterboxlaw05_LinesJoined.l2 k x8 x9 x13 (wrap64 (x14 + 1))) else (some false)) else (none))) else (none)) else (none)) else (some true)
def letterboxlaw05_LinesJoined.l0 : Nat → List ByteArray → List Int → Bool → ByteArray → List ByteArray → Int → Option (Bool)
  | 0, _, _, _, _, _, _ => none
  | k + 1, x0, x1, x2, x8, x9, x10 => if x10 < (x0.length : Int) then (letterboxlaw05_LinesJoined.l1 k x0 x1 x2 x8 x9 x10 (⟨#[]⟩ : ByteArray) 0) else (letterboxlaw05_LinesJoined.j5 k x8 x9)
def letterboxlaw05_LinesJoined.l1 : Nat → List ByteArray → List Int → Bool → ByteArray → List ByteArray → Int → ByteArray → Int → Option (Bool)
  | 0, _, _, _, _, _, _, _, _ => none
  | k + 1, x0, x1, x2, x8, x9, x10, x11, x12 => if 0 ≤ x10 then (if x10 < (x0.length : Int) then (if x12 < ((rdOf ByteArray.empty x0 x10).size : Int) then (letterboxlaw05_LinesJoined.j3 k x0 x1 x2 x8 x9 x10 x11 x12 (decide (x12 < 20))) else (letterboxlaw05_LinesJoined.j3 k x0 x1 x2 x8 x9 x10 x11 x12 false)) else (none)) else (none)
def letterboxlaw05_LinesJoined.j3 : Nat → List ByteArray → List Int → Bool → ByteArray → List ByteArray → Int → ByteArray → Int → Bool → Option (Bool)
  | 0, _, _, _, _, _, _, _, _, _ => none
  | k + 1, x0, x1, x2, x8, x9, x10, x11, x12, x44 => if x44 = true then (if 0 ≤ x10 then (if x10 < (x0.length : Int) then (if 0 ≤ x12 then (if x12 < ((rdOf ByteArray.empty x0 x10).size : Int) then (if (bt (rdOf ByteArray.empty x0 x10) x12) = 10 then (letterboxlaw05_LinesJoined.l1 k x0 x1 x2 x8 x9 x10 x11 (wrap64 (x12 + 1))) else (if (bt (rdOf ByteArray.empty x0 x10) x12) = 13 then (letterboxlaw05_LinesJoined.l1 k x0 x1 x2 x8 x9 x10 x11 (wrap64 (x12 + 1))) else (if x12 ≤ (wrap64 (x12 + 1)) then (if (wrap64 (x12 + 1)) ≤ ((rdOf ByteArray.empty x0 x10).size : Int) then (if x11.size + ((rdOf ByteArray.empty x0 x10).extract (x12 : Int).toNat ((wrap64 (x12 + 1)) : Int).toNat).size ≤ 9223372036854775807 then (letterboxlaw05_LinesJoined.l1 k x0 x1 x2 x8 x9 x10 (x11 ++ ((rdOf ByteArray.empty x0 x10).extract (x12 : Int).toNat ((wrap64 (x12 + 1)) : Int).toNat)) (wrap64 (x12 + 1))) else (none)) else (none)) else (none)))) else (none)) else (none)) else (none)) else (none)) else (if x8.size + x11.size ≤ 9223372036854775807 then (if x10 = (wrap64 ((x0.length : Int) - 1)) then (letterboxlaw05_LinesJoined.j4 k x0 x1 x2 (x8 ++ x11) x9 x10 x11 x2) else (letterboxlaw05_LinesJoined.j4 k x0 x1 x2 (x8 ++ x11) x9 x10 x11 false)) else (none))
def letterboxlaw05_LinesJoined.j4 : Nat → List ByteArray → List Int → Bool → ByteArray → List ByteArray → Int → ByteArray → Bool → Option (Bool)
  | 0, _, _, _, _, _, _, _, _ => none
  | k + 1, x0, x1, x2, x8, x9, x10, x11, x83 => if x83 = true then (if x11.toList = ([] : List UInt8) then (letterboxlaw05_LinesJoined.j5 k x8 x9) else (if x9.length < 8796093022208 then (letterboxlaw05_LinesJoined.j5 k x8 (x9 ++ [x11])) else (none))) else (if 0 ≤ x10 then (if x10 < (x1.length : Int) then (if (Go.bits .and .u8 (rd x1 x10) 1) = 1 then (if x8.size + 1 ≤ 9223372036854775807 then (if (x8 ++ (⟨#[13]⟩ : ByteArray)).size + 1 ≤ 9223372036854775807 then (if x9.length < 8796093022208 then (letterboxlaw05_LinesJoined.l0 k x0 x1 x2 ((x8 ++ (⟨#[13]⟩ : ByteArray)) ++ (⟨#[10]⟩ : ByteArray)) (x9 ++ [x11]) (wrap64 (x10 + 1))) else (none)) else (none)) else (none)) else (if x8.size + 1 ≤ 9223372036854775807 then (if x9.length < 8796093022208 then (letterboxlaw05_LinesJoined.l0 k x0 x1 x2 (x8 ++ (⟨#[10]⟩ : ByteArray)) (x9 ++ [x11]) (wrap64 (x10 + 1))) else (none)) else (none))) else (none)) else (none))
end
def letterboxlaw05_LinesJoined.f (k : Nat) (l0 : List ByteArray) (l1 : List Int) (a2 : Bool) : Option (Bool) := (letterboxlaw05_awake.f).bind fun t121 => (if t121 = true then (if (l0.length : Int) > 10 then (letterboxlaw05_LinesJoined.j0 k l0 l1 a2 true) else (letterboxlaw05_LinesJoined.j0 k l0 l1 a2 (decide ((l1.length : Int) < (l0.length : Int))))) else (some false))
theorem letterboxlaw05_LinesJoined.mono_l : ∀ k, (∀ y0 y1 y2 y3, LeO (letterboxlaw05_LinesJoined.j0 k y0 y1 y2 y3) (letterboxlaw05_LinesJoined.j0 (k + 1) y0 y1 y2 y3)) ∧ (∀ y0 y1, LeO (letterboxlaw05_LinesJoined.j5 k y0 y1) (letterboxlaw05_LinesJoined.j5 (k + 1) y0 y1)) ∧ (∀ y0 y1 y2 y3, LeO (letterboxlaw05_LinesJoined.l2 k y0 y1 y2 y3) (letterboxlaw05_LinesJoined.l2 (k + 1) y0 y1 y2 y3)) ∧ (∀ y0 y1 y2 y3 y4 y5, LeO (letterboxlaw05_LinesJoined.l0 k y0 y1 y2 y3 y4 y5) (letterboxlaw05_LinesJoined.l0 (k + 1) y0 y1 y2 y3 y4 y5)) ∧ (∀ y0 y1 y2 y3 y4 y5 y6 y7, LeO (letterboxlaw05_LinesJoined.l1 k y0 y1 y2 y3 y4 y5 y6 y7) (letterboxlaw05_LinesJoined.l1 (k + 1) y0 y1 y2 y3 y4 y5 y6 y7)) ∧ (∀ y0 y1 y2 y3 y4 y5 y6 y7 y8, LeO (letterboxlaw05_LinesJoined.j3 k y0 y1 y2 y3 y4 y5 y6 y7 y8) (letterboxlaw05_LinesJoined.j3 (k + 1) y0 y1 y2 y3 y4 y5 y6 y7 y8)) ∧ (∀ y0 y1 y2 y3 y4 y5 y6 y7, LeO (letterboxlaw05_LinesJoined.j4 k y0 y1 y2 y3 y4 y5 y6 y7) (letterboxlaw05_LinesJoined.j4 (k + 1) y0 y1 y2 y3 y4 y5 y6 y7))
  | 0 => ⟨fun _ _ _ _ r h => by simp [letterboxlaw05_LinesJoined.j0] at h, fun _ _ r h => by simp [letterboxlaw05_LinesJoined.j5] at h, fun _ _ _ _ r h => by simp [letterboxlaw05_LinesJoined.l2] at h, fun _ _ _ _ _ _ r h => by simp [letterboxlaw05_LinesJoined.l0] at h, fun _ _ _ _ _ _ _ _ r h => by simp [letterboxlaw05_LinesJoined.l1] at h, fun _ _ _ _ _ _ _ _ _ r h => by simp [letterboxlaw05_LinesJoined.j3] at h, fun _ _ _ _ _ _ _ _ r h => by simp [letterboxlaw05_LinesJoined.j4] at h⟩
  | k + 1 => by
    obtain ⟨ih0, ih1, ih2, ih3, ih4, ih5, ih6⟩ := letterboxlaw05_LinesJoined.mono_l k
    refine ⟨?_, ?_, ?_, ?_, ?_, ?_, ?_⟩
    · intro y0 y1 y2 y3
      unfold letterboxlaw05_LinesJoined.j0
      repeat' first
      | (with_reducible exact ih0 _ _ _ _)
      | (with_reducible exact ih1 _ _)
      | (with_reducible exact ih2 _ _ _ _)
      | (with_reducible exact ih3 _ _ _ _ _ _)
      | (with_reducible exact ih4 _ _ _ _ _ _ _ _)
      | (with_reducible exact ih5 _ _ _ _ _ _ _ _ _)
      | (with_reducible exact ih6 _ _ _ _ _ _ _ _)
      | (with_reducible exact LeO.refl _)
      | (with_reducible exact LeO.none _)
      | (with_reducible refine LeO.ite ?_ ?_)
      | (with_reducible refine LeO.bind ?_ (fun _ => ?_))
      | exact ih0 _ _ _ _
      | exact ih1 _ _
      | exact ih2 _ _ _ _
      | exact ih3 _ _ _ _ _ _
      | exact ih4 _ _ _ _ _ _ _ _
      | exact ih5 _ _ _ _ _ _ _ _ _
      | exact ih6 _ _ _ _ _ _ _ _
      | exact LeO.none _
      | refine LeO.ite ?_ ?_
      | refine LeO.bind ?_ (fun _ => ?_)
    · intro y0 y1
      unfold letterboxlaw05_LinesJoined.j5
      repeat' first
      | (with_reducible exact ih0 _ _ _ _)
      | (with_reducible exact ih1 _ _)
      | (with_reducible exact ih2 _ _ _ _)
      | (with_reducible exact ih3 _ _ _ _ _ _)
      | (with_reducible exact ih4 _ _ _ _ _ _ _ _)
      | (with_reducible exact ih5 _ _ _ _ _ _ _ _ _)
      | (with_reducible exact ih6 _ _ _ _ _ _ _ _)
      | (with_reducible exact LeO.refl _)
      | (with_reducible exact LeO.none _)
      | (with_reducible refine LeO.ite ?_ ?_)
      | (with_reducible refine LeO.bind ?_ (fun _ => ?_))
      | exact ih0 _ _ _ _
      | exact ih1 _ _
      | exact ih2 _ _ _ _
      | exact ih3 _ _ _ _ _ _
      | exact ih4 _ _ _ _ _ _ _ _
      | exact ih5 _ _ _ _ _ _ _ _ _
      | exact ih6 _ _ _ _ _ _ _ _
      | exact LeO.none _
      | refine LeO.ite ?_ ?_
      | refine LeO.bind ?_ (fun _ => ?_)
    · intro y0 y1 y2 y3
      unfold letterboxlaw05_LinesJoined.l2
      repeat' first
      | (with_reducible exact ih0 _ _ _ _)
      | (with_reducible exact ih1 _ _)
      | (with_reducible exact ih2 _ _ _ _)
      | (with_reducible exact ih3 _ _ _ _ _ _)
      | (with_reducible exact ih4 _ _ _ _ _ _ _ _)
      | (with_reducible exact ih5 _ _ _ _ _ _ _ _ _)
      | (with_reducible exact ih6 _ _ _ _ _ _ _ _)
      | (with_reducible exact LeO.refl _)
      | (with_reducible exact LeO.none _)
      | (with_reducible refine LeO.ite ?_ ?_)
      | (with_reducible refine LeO.bind ?_ (fun _ => ?_))
      | exact ih0 _ _ _ _
      | exact ih1 _ _
      | exact ih2 _ _ _ _
      | exact ih3 _ _ _ _ _ _
      | exact ih4 _ _ _ _ _ _ _ _
      | exact ih5 _ _ _ _ _ _ _ _ _
      | exact ih6 _ _ _ _ _ _ _ _
      | exact LeO.none _
      | refine LeO.ite ?_ ?_
      | refine LeO.bind ?_ (fun _ => ?_)
    · intro y0 y1 y2 y3 y4 y5
      unfold letterboxlaw05_LinesJoined.l0
      repeat' first
      | (with_reducible exact ih0 _ _ _ _)
      | (with_reducible exact ih1 _ _)
      | (with_reducible exact ih2 _ _ _ _)
      | (with_reducible exact ih3 _ _ _ _ _ _)
      | (with_reducible exact ih4 _ _ _ _ _ _ _ _)
      | (with_reducible exact ih5 _ _ _ _ _ _ _ _ _)
      | (with_reducible exact ih6 _ _ _ _ _ _ _ _)
      | (with_reducible exact LeO.refl _)
      | (with_reducible exact LeO.none _)
      | (with_reducible refine LeO.ite ?_ ?_)
      | (with_reducible refine LeO.bind ?_ (fun _ => ?_))
      | exact ih0 _ _ _ _
      | exact ih1 _ _
      | exact ih2 _ _ _ _
      | exact ih3 _ _ _ _ _ _
      | exact ih4 _ _ _ _ _ _ _ _
      | exact ih5 _ _ _ _ _ _ _ _ _
      | exact ih6 _ _ _ _ _ _ _ _
      | exact LeO.none _
      | refine LeO.ite ?_ ?_
      | refine LeO.bind ?_ (fun _ => ?_)
    · intro y0 y1 y2 y3 y4 y5 y6 y7
      unfold letterboxlaw05_LinesJoined.l1
      repeat' first
      | (with_reducible exact ih0 _ _ _ _)
      | (with_reducible exact ih1 _ _)
      | (with_reducible exact ih2 _ _ _ _)
      | (with_reducible exact ih3 _ _ _ _ _ _)
      | (with_reducible exact ih4 _ _ _ _ _ _ _ _)
      | (with_reducible exact ih5 _ _ _ _ _ _ _ _ _)
      | (with_reducible exact ih6 _ _ _ _ _ _ _ _)
      | (with_reducible exact LeO.refl _)
      | (with_reducible exact LeO.none _)
      | (with_reducible refine LeO.ite ?_ ?_)
      | (with_reducible refine LeO.bind ?_ (fun _ => ?_))
      | exact ih0 _ _ _ _
      | exact ih1 _ _
      | exact ih2 _ _ _ _
      | exact ih3 _ _ _ _ _ _
      | exact ih4 _ _ _ _ _ _ _ _
      | exact ih5 _ _ _ _ _ _ _ _ _
      | exact ih6 _ _ _ _ _ _ _ _
      | exact LeO.none _
      | refine LeO.ite ?_ ?_
      | refine LeO.bind ?_ (fun _ => ?_)
    · intro y0 y1 y2 y3 y4 y5 y6 y7 y8
      unfold letterboxlaw05_LinesJoined.j3
      repeat' first
      | (with_reducible exact ih0 _ _ _ _)
      | (with_reducible exact ih1 _ _)
      | (with_reducible exact ih2 _ _ _ _)
      | (with_reducible exact ih3 _ _ _ _ _ _)
      | (with_reducible exact ih4 _ _ _ _ _ _ _ _)
      | (with_reducible exact ih5 _ _ _ _ _ _ _ _ _)
      | (with_reducible exact ih6 _ _ _ _ _ _ _ _)
      | (with_reducible exact LeO.refl _)
      | (with_reducible exact LeO.none _)
      | (with_reducible refine LeO.ite ?_ ?_)
      | (with_reducible refine LeO.bind ?_ (fun _ => ?_))
      | exact ih0 _ _ _ _
      | exact ih1 _ _
      | exact ih2 _ _ _ _
      | exact ih3 _ _ _ _ _ _
      | exact ih4 _ _ _ _ _ _ _ _
      | exact ih5 _ _ _ _ _ _ _ _ _
      | exact ih6 _ _ _ _ _ _ _ _
      | exact LeO.none _
      | refine LeO.ite ?_ ?_
      | refine LeO.bind ?_ (fun _ => ?_)
    · intro y0 y1 y2 y3 y4 y5 y6 y7
      unfold letterboxlaw05_LinesJoined.j4
      repeat' first
      | (with_reducible exact ih0 _ _ _ _)
      | (with_reducible exact ih1 _ _)
      | (with_reducible exact ih2 _ _ _ _)
      | (with_reducible exact ih3 _ _ _ _ _ _)
      | (with_reducible exact ih4 _ _ _ _ _ _ _ _)
      | (with_reducible exact ih5 _ _ _ _ _ _ _ _ _)
      | (with_reducible exact ih6 _ _ _ _ _ _ _ _)
      | (with_reducible exact LeO.refl _)
      | (with_reducible exact LeO.none _)
      | (with_reducible refine LeO.ite ?_ ?_)
      | (with_reducible refine LeO.bind ?_ (fun _ => ?_))
      | exact ih0 _ _ _ _
      | exact ih1 _ _
      | exact ih2 _ _ _ _
      | exact ih3 _ _ _ _ _ _
      | exact ih4 _ _ _ _ _ _ _ _
      | exact ih5 _ _ _ _ _ _ _ _ _
      | exact ih6 _ _ _ _ _ _ _ _
      | exact LeO.none _
      | refine LeO.ite ?_ ?_
      | refine LeO.bind ?_ (fun _ => ?_)
theorem letterboxlaw05_LinesJoined.mono : ∀ a0 a1 a2 k, LeO (letterboxlaw05_LinesJoined.f k a0 a1 a2) (letterboxlaw05_LinesJoined.f (k + 1) a0 a1 a2) := by
  intro a0 a1 a2 k
  obtain ⟨ih0, ih1, ih2, ih3, ih4, ih5, ih6⟩ := letterboxlaw05_LinesJoined.mono_l k
  unfold letterboxlaw05_LinesJoined.f
  repeat' first
      | (with_reducible exact ih0 _ _ _ _)
      | (with_reducible exact ih1 _ _)
      | (with_reducible exact ih2 _ _ _ _)
      | (with_reducible exact ih3 _ _ _ _ _ _)
      | (with_reducible exact ih4 _ _ _ _ _ _ _ _)
      | (with_reducible exact ih5 _ _ _ _ _ _ _ _ _)
      | (with_reducible exact ih6 _ _ _ _ _ _ _ _)
      | (with_reducible exact LeO.refl _)
      | (with_reducible exact LeO.none _)
      | (with_reducible refine LeO.ite ?_ ?_)
      | (with_reducible refine LeO.bind ?_ (fun _ => ?_))
      | exact ih0 _ _ _ _
      | exact ih1 _ _
      | exact ih2 _ _ _ _
      | exact ih3 _ _ _ _ _ _
      | exact ih4 _ _ _ _ _ _ _ _
      | exact ih5 _ _ _ _ _ _ _ _ _
      | exact ih6 _ _ _ _ _ _ _ _
      | exact LeO.none _
      | refine LeO.ite ?_ ?_
      | refine LeO.bind ?_ (fun _ => ?_)
def letterboxlaw05_LinesJoined.T31 : Bool × List (List Nat × List Nat) := (true, [([], []), ([0], [0]), ([], []), ([], []), ([2, 3], [2, 3]), ([4], [4]), ([1, 5], [1, 5]), ([], []), ([], []), ([7, 8], [7, 8]), ([9], [9]), ([6, 10], [6, 10])])
def letterboxlaw05_LinesJoined.B31 : List Nat := [0, 1, 0, 0, 12, 28, 63, 0, 0, 384, 896, 2047]
theorem letterboxlaw05_LinesJoined.tab31 : rtab .any (opsOf Try.f4 31) = letterboxlaw05_LinesJoined.T31 := by kernel_rfl
theorem letterboxlaw05_LinesJoined.bits31 : waitsOk letterboxlaw05_LinesJoined.T31.2 letterboxlaw05_LinesJoined.B31 = true := by kernel_rfl
set_option maxHeartbeats 8000000 in
set_option maxRecDepth 100000 in
theorem letterboxlaw05_LinesJoined.calls (k : Nat) (A0 : Option Addr) (c0 : Nat) (l0 : List ByteArray) (A1 : Option Addr) (c1 : Nat) (l1 : List Int) (a2 : Bool) (r : Bool) (w : World) (hr0 : Kd.C Kd.string w A0 l0.length l0) (hc0 : l0.length ≤ c0) (hr1 : Kd.C (Kd.int .u8) w A1 l1.length l1) (hc1 : l1.length ≤ c1) (h : letterboxlaw05_LinesJoined.f k l0 l1 a2 = some r) :
    Calls Try.prog 4 #[.slice A0 l0.length c0, .slice A1 l1.length c1, .bool a2] w fun e w' => e = .returned (.bool r) ∧ Below w.heap.size w w' := by
  have hu27 := Try.underlying27
  have hu29 := Try.underlying29
  have hw8_ : ∀ x_ : Int, IntKind.u8.wrap x_ = x_ % 256 := IntKind.wrap_u8
  have HR0 := Aside0.mk hr0
  have HC0 := Aside0.mk hc0
  clear hr0 hc0
  have HR1 := Aside0.mk hr1
  have HC1 := Aside0.mk hc1
  clear hr1 hc1
  have HB := Aside0.mk (Below.refl w.heap.size w)
  have H : ((letterboxlaw05_awake.f).bind fun t121 => (if t121 = true then (if (l0.length : Int) > 10 then (letterboxlaw05_LinesJoined.j0 k l0 l1 a2 true) else (letterboxlaw05_LinesJoined.j0 k l0 l1 a2 (decide ((l1.length : Int) < (l0.length : Int))))) else (some false))) = some r := h
  clear h
  replace H := Option.bind_eq_some_iff.mp H
  obtain ⟨t121, A40, H⟩ := H
  replace H : (if t121 = true then (if (l0.length : Int) > 10 then (letterboxlaw05_LinesJoined.j0 k l0 l1 a2 true) else (letterboxlaw05_LinesJoined.j0 k l0 l1 a2 (decide ((l1.length : Int) < (l0.length : Int))))) else (some false)) = some r := H
  have A4 := Aside0.mk A40
  clear A40
  by_cases c5 : t121 = true
  · subst c5
    have H1 : (if (l0.length : Int) > 10 then (letterboxlaw05_LinesJoined.j0 k l0 l1 a2 true) else (letterboxlaw05_LinesJoined.j0 k l0 l1 a2 (decide ((l1.length : Int) < (l0.length : Int))))) = some r := by rw [if_pos rfl] at H; exact H
    clear H
    have H := H1
    clear H1
    have HC6 := Aside0.mk H
    clear H
    go_enter Try.func4, Try.ntmps4
    go_upto_region 4 with (first | ((with_reducible refine gate_callee (f := 7) rfl ?_); refine goesL_ (some 15) rfl rfl Try.func7 (by kernel_rfl) rfl #[] rfl (by (try simp only [List.map_toArray, List.map_cons, List.map_nil]); first | done | rfl | (simp only [List.length_drop, List.length_take]; rfl)) ?_; (with_reducible refine (letterboxlaw05_awake.calls  true _ A4.out).mono ?_); rintro e w7 ⟨rfl, hb⟩; refine ⟨_, rfl, ?_⟩; have n0_ := Aside0.mk (below_step (by repeat (first | (with_reducible first | exact HB.out | apply below_alloc | apply pw_below_drewN | apply below_drew1) | exact HB.out)) hb); clear HB; have HB := n0_; clear n0_; (try clear hb); (try clear hb2); (try clear hk); (try clear hi)))
    (try simp only [Act.put, List.setIfInBounds_toArray, List.set_cons_zero, List.set_cons_succ])
    go_cut [27] (fun v27 wc => ∃ (kq : Nat) (x27_5 : Bool), v27 = .bool x27_5 ∧ Aside0 (letterboxlaw05_LinesJoined.j0 kq l0 l1 a2 x27_5 = some r) ∧ Aside0 (kq ≤ k) ∧ Aside0 (Below w.heap.size w wc))
    case first =>
      have H := HC6.out
      clear HC6
      by_cases c8 : (l0.length : Int) > 10
      · rw [if_pos c8] at H
        have c8b0 : decide (10 < (l0.length : Int)) = true := decide_eq_true c8
        have c8b1 : decide (10 < l0.length) = true := decide_eq_true (by omega)
        clear c8
        (first | rw [c8b0] | (simp only [i64_w, i32_w]; rw [c8b0]) | skip)
        have H' := Aside0.mk H
        clear H
        go_wp2
        go_meet
        case rel => exact ⟨_, (true), (by first | rfl | (simp; done) | (simp [*]; done)), H', ⟨by first | omega | exact Nat.le_refl _⟩, ⟨by repeat (first | (with_reducible first | exact HB.out | apply below_alloc | apply pw_below_drewN | apply below_drew1) | exact HB.out)⟩⟩
      · rw [if_neg c8] at H
        have c8b0 : decide (10 < (l0.length : Int)) = false := decide_eq_false c8
        have c8b1 : decide (10 < l0.length) = false := decide_eq_false (by omega)
        clear c8
        (first | rw [c8b0] | (simp only [i64_w, i32_w]; rw [c8b0]) | skip)
        have H' := Aside0.mk H
        clear H
        go_wp2
        go_meet
        case rel => exact ⟨_, (decide ((l1.length : Int) < (l0.length : Int))), (by first | rfl | (simp; done) | (simp [*]; done)), H', ⟨by first | omega | exact Nat.le_refl _⟩, ⟨by repeat (first | (with_reducible first | exact HB.out | apply below_alloc | apply pw_below_drewN | apply below_drew1) | exact HB.out)⟩⟩
    case rest =>
      clear HC6
      try clear c1
      try clear p2
      try clear c4
      try clear c5
      try clear c7
      try clear c8
      try clear c8b0
      try clear c8b1
      obtain ⟨kq, x27_5, rfl, HA, HJ5, HB⟩ := hcut
      cases kq with
      | zero => exact absurd HA.out (by simp [letterboxlaw05_LinesJoined.j0])
      | succ kj5 =>
        have H := HA.out
        clear HA
        simp only [letterboxlaw05_LinesJoined.j0] at H
        by_cases c9 : x27_5 = true
        · subst c9
          have H1 : (some true) = some r := by rw [if_pos rfl] at H; exact H
          clear H
          have H := H1
          clear H1
          obtain rfl := Option.some.inj H
          go_wp2
          go_ret
          exact ⟨by first | rfl | (simp [errW_none, errW_some] <;> rfl) | (simp [*, errW_none, errW_some] <;> rfl), by repeat (first | (with_reducible first | exact HB.out | apply below_alloc | apply pw_below_drewN | apply below_drew1) | exact HB.out)⟩
        · replace c9 := Bool.eq_false_iff.mpr c9
          subst c9
          have H1 : (letterboxlaw05_LinesJoined.l0 kj5 l0 l1 a2 (⟨#[]⟩ : ByteArray) ([] : List ByteArray) 0) = some r := by rw [if_neg (show ¬ (false = true) by decide)] at H; exact H
          clear H
          have H := H1
          clear H1
          have HC10 := Aside0.mk H
          clear H
          go_upto_block 0 with (fail)
          go_cut [8, 9] (fun v8 v9 wc => ∃ (kq : Nat) (x8_9 : ByteArray) (x9_9 : List ByteArray), v8 = .string x8_9 ∧ Aside0 (letterboxlaw05_LinesJoined.j5 kq x8_9 x9_9 = some r) ∧ Aside0 (kq ≤ kj5) ∧ Aside0 (Kd.R Kd.string 9 wc w.heap.size (fun _ => True) v9 x9_9) ∧ Aside0 (Below w.heap.size w wc))
          case first =>
            have H := HC10.out
            clear HC10
            have H' := Aside0.mk H
            clear H
            go_wp2
            go_loopg [8, 9, 10] kj5 (fun kq v8 v9 v10 w' => ∃ (x8_2 : ByteArray) (x9_2 : List ByteArray) (x10_2 : Int), v8 = .string x8_2 ∧ v10 = .int .i64 x10_2 ∧ Aside0 (letterboxlaw05_LinesJoined.l0 kq l0 l1 a2 x8_2 x9_2 x10_2 = some r) ∧ Aside0 (kq ≤ kj5) ∧ Aside0 (Kd.R Kd.string 9 w' w.heap.size (fun _ => True) v9 x9_2) ∧ Aside0 (Below w.heap.size w w'))
            case atStart => exact ⟨((⟨#[]⟩ : ByteArray)), (([] : List ByteArray)), (0), (by first | rfl | (simp; done) | (simp [*]; done)), (by first | rfl | (simp; done) | (simp [*]; done)), H', ⟨Nat.le_refl _⟩, ⟨by first | exact Kd.R_nil _ _ _ _ _ | exact Kd.N_nil _ _ _ _ _ | exact Kd.V_nil _ _ _ _ _ | exact Kd.Q_nil _ _ _ _ _ | exact Kd.S_nil _ _ _ _ _⟩, ⟨by repeat (first | (with_reducible first | exact HB.out | apply below_alloc | apply pw_below_drewN | apply below_drew1) | exact HB.out)⟩⟩
            case round =>
              clear H'
              try clear c1
              try clear p2
              try clear c4
              try clear c5
              try clear c7
              try clear c8
              try clear c8b0
              try clear c8b1
              try clear c9
              try clear p2
              obtain ⟨x8_2, x9_2, x10_2, rfl, rfl, HA, HK2, HO_9, HB⟩ := hrel
              cases gk with
              | zero => exact absurd HA.out (by simp [letterboxlaw05_LinesJoined.l0])
              | succ k2 =>
                have H := HA.out
                clear HA
                simp only [letterboxlaw05_LinesJoined.l0] at H
                by_cases c11 : x10_2 < (l0.length : Int)
                · rw [if_pos c11] at H
                  have c11b0 : decide (x10_2 < (l0.length : Int)) = true := decide_eq_true c11
                  clear c11
                  (first | rw [c11b0] | (simp only [i64_w, i32_w]; rw [c11b0]) | skip)
                  have H' := Aside0.mk H
                  clear H
                  go_wp2
                  go_loopg [11, 12] k2 (fun kq v11 v12 w' => ∃ (x11_3 : ByteArray) (x12_3 : Int), v11 = .string x11_3 ∧ v12 = .int .i64 x12_3 ∧ Aside0 (letterboxlaw05_LinesJoined.l1 kq l0 l1 a2 x8_2 x9_2 x10_2 x11_3 x12_3 = some r) ∧ Aside0 (kq ≤ k2) ∧ Aside0 (Kd.R Kd.string 9 w' w.heap.size (fun _ => True) u9 x9_2) ∧ Aside0 (Below w.heap.size w w'))
                  case atStart => exact ⟨((⟨#[]⟩ : ByteArray)), (0), (by first | rfl | (simp; done) | (simp [*]; done)), (by first | rfl | (simp; done) | (simp [*]; done)), H', ⟨Nat.le_refl _⟩, ⟨by (with_reducible repeat (first | apply Kd.R_alloc | apply Kd.R_drewN | apply Kd.R_drew)); exact HO_9.out⟩, ⟨by repeat (first | (with_reducible first | exact HB.out | apply below_alloc | apply pw_below_drewN | apply below_drew1) | exact HB.out)⟩⟩
                  case round =>
                    clear H'
                    try clear c1
                    try clear p2
                    try clear c4
                    try clear c5
                    try clear c7
                    try clear c8
                    try clear c8b0
                    try clear c8b1
                    try clear c9
                    try clear c11
                    try clear c11b0
                    try clear p2
                    obtain ⟨x11_3, x12_3, rfl, rfl, HA, HK3, HO_9, HB⟩ := hrel
                    cases gk with
                    | zero => exact absurd HA.out (by simp [letterboxlaw05_LinesJoined.l1])
                    | succ k3 =>
                      have H := HA.out
                      clear HA
                      simp only [letterboxlaw05_LinesJoined.l1] at H
                      have HC12 := Aside0.mk H
                      clear H
                      go_upto_region 13 with (fail)
                      go_cut [44] (fun v44 wc => ∃ (kq : Nat) (x44_11 : Bool), v44 = .bool x44_11 ∧ Aside0 (letterboxlaw05_LinesJoined.j3 kq l0 l1 a2 x8_2 x9_2 x10_2 x11_3 x12_3 x44_11 = some r) ∧ Aside0 (kq ≤ k3) ∧ Aside0 (Kd.R Kd.string 9 wc w.heap.size (fun _ => True) u9 x9_2) ∧ Aside0 (Below w.heap.size w wc))
                      case first =>
                        have H := HC12.out
                        clear HC12
                        by_cases c13 : 0 ≤ x10_2
                        · rw [if_pos c13] at H
                          have c13b0 : decide (0 ≤ x10_2) = true := decide_eq_true c13
                          clear c13
                          (first | rw [c13b0] | (simp only [i64_w, i32_w]; rw [c13b0]) | skip)
                          by_cases c14 : x10_2 < (l0.length : Int)
                          · rw [if_pos c14] at H
                            have c14b0 : decide (x10_2 < (l0.length : Int)) = true := decide_eq_true c14
                            clear c14
                            by_cases c15 : x12_3 < ((rdOf ByteArray.empty l0 x10_2).size : Int)
                            · rw [if_pos c15] at H
                              have c15b0 : decide (x12_3 < ((rdOf ByteArray.empty l0 x10_2).size : Int)) = true := decide_eq_true c15
                              clear c15
                              have H' := Aside0.mk H
                              clear H
                              have p122 : 0 ≤ (x10_2 : Int) := of_decide_eq_true (by first | (with_reducible assumption) | assumption)
                              have q122 : x10_2 < (l0.length : Int) := of_decide_eq_true (by first | (with_reducible assumption) | assumption)
                              obtain ⟨ad122, e122, hx122_0⟩ := Kd.at_string HR0.out x10_2 p122 q122
                              cases e122
                              replace hx122_0 := (HB.out.cell (World.block_lt_of_cell? w _ hx122_0)).trans hx122_0
                              replace p122 := eq_true p122
                              replace q122 := eq_true q122
                              go_wp2
                              go_meet
                              case rel => exact ⟨_, (decide (x12_3 < 20)), (by first | rfl | (simp; done) | (simp [*]; done)), H', ⟨by have := HJ5.out; have := HK2.out; have := HK3.out; first | omega | exact Nat.le_refl _⟩, ⟨by (with_reducible repeat (first | apply Kd.R_alloc | apply Kd.R_drewN | apply Kd.R_drew)); exact HO_9.out⟩, ⟨by repeat (first | (with_reducible first | exact HB.out | apply below_alloc | apply pw_below_drewN | apply below_drew1) | exact HB.out)⟩⟩
                            · rw [if_neg c15] at H
                              have c15b0 : decide (x12_3 < ((rdOf ByteArray.empty l0 x10_2).size : Int)) = false := decide_eq_false c15
                              clear c15
                              have H' := Aside0.mk H
                              clear H
                              have p122 : 0 ≤ (x10_2 : Int) := of_decide_eq_true (by first | (with_reducible assumption) | assumption)
                              have q122 : x10_2 < (l0.length : Int) := of_decide_eq_true (by first | (with_reducible assumption) | assumption)
                              obtain ⟨ad122, e122, hx122_0⟩ := Kd.at_string HR0.out x10_2 p122 q122
                              cases e122
                              replace hx122_0 := (HB.out.cell (World.block_lt_of_cell? w _ hx122_0)).trans hx122_0
                              replace p122 := eq_true p122
                              replace q122 := eq_true q122
                              go_wp2
                              go_meet
                              case rel => exact ⟨_, (false), (by first | rfl | (simp; done) | (simp [*]; done)), H', ⟨by have := HJ5.out; have := HK2.out; have := HK3.out; first | omega | exact Nat.le_refl _⟩, ⟨by (with_reducible repeat (first | apply Kd.R_alloc | apply Kd.R_drewN | apply Kd.R_drew)); exact HO_9.out⟩, ⟨by repeat (first | (with_reducible first | exact HB.out | apply below_alloc | apply pw_below_drewN | apply below_drew1) | exact HB.out)⟩⟩
                          · rw [if_neg c14] at H
                            exact absurd H (by simp)
                        · rw [if_neg c13] at H
                          exact absurd H (by simp)
                      case rest =>
                        clear HC12
                        try clear c1
                        try clear p1
                        try clear q1
                        try clear hx1
                        try clear p2
                        try clear c4
                        try clear c5
                        try clear c7
                        try clear c8
                        try clear c8b0
                        try clear c8b1
                        try clear c9
                        try clear c11
                        try clear c11b0
                        try clear p12
                        try clear q12
                        try clear hx12
                        try clear c13
                        try clear c13b0
                        try clear c14
                        try clear c14b0
                        try clear c15
                        try clear c15b0
                        try clear hx122_0
                        try clear p122
                        try clear p2
                        try clear q122
                        obtain ⟨kq, x44_11, rfl, HA, HJ11, HO_9, HB⟩ := hcut
                        cases kq with
                        | zero => exact absurd HA.out (by simp [letterboxlaw05_LinesJoined.j3])
                        | succ kj11 =>
                          have H := HA.out
                          clear HA
                          simp only [letterboxlaw05_LinesJoined.j3] at H
                          by_cases c16 : x44_11 = true
                          · subst c16
                            have H1 : (if 0 ≤ x10_2 then (if x10_2 < (l0.length : Int) then (if 0 ≤ x12_3 then (if x12_3 < ((rdOf ByteArray.empty l0 x10_2).size : Int) then (if (bt (rdOf ByteArray.empty l0 x10_2) x12_3) = 10 then (letterboxlaw05_LinesJoined.l1 kj11 l0 l1 a2 x8_2 x9_2 x10_2 x11_3 (wrap64 (x12_3 + 1))) else (if (bt (rdOf ByteArray.empty l0 x10_2) x12_3) = 13 then (letterboxlaw05_LinesJoined.l1 kj11 l0 l1 a2 x8_2 x9_2 x10_2 x11_3 (wrap64 (x12_3 + 1))) else (if x12_3 ≤ (wrap64 (x12_3 + 1)) then (if (wrap64 (x12_3 + 1)) ≤ ((rdOf ByteArray.empty l0 x10_2).size : Int) then (if x11_3.size + ((rdOf ByteArray.empty l0 x10_2).extract (x12_3 : Int).toNat ((wrap64 (x12_3 + 1)) : Int).toNat).size ≤ 9223372036854775807 then (letterboxlaw05_LinesJoined.l1 kj11 l0 l1 a2 x8_2 x9_2 x10_2 (x11_3 ++ ((rdOf ByteArray.empty l0 x10_2).extract (x12_3 : Int).toNat ((wrap64 (x12_3 + 1)) : Int).toNat)) (wrap64 (x12_3 + 1))) else (none)) else (none)) else (none)))) else (none)) else (none)) else (none)) else (none)) = some r := by rw [if_pos rfl] at H; exact H
                            clear H
                            have H := H1
                            clear H1
                            by_cases c17 : 0 ≤ x10_2
                            · rw [if_pos c17] at H
                              have c17b0 : decide (0 ≤ x10_2) = true := decide_eq_true c17
                              clear c17
                              by_cases c18 : x10_2 < (l0.length : Int)
                              · rw [if_pos c18] at H
                                have c18b0 : decide (x10_2 < (l0.length : Int)) = true := decide_eq_true c18
                                clear c18
                                by_cases c19 : 0 ≤ x12_3
                                · rw [if_pos c19] at H
                                  have c19b0 : decide (0 ≤ x12_3) = true := decide_eq_true c19
                                  clear c19
                                  by_cases c20 : x12_3 < ((rdOf ByteArray.empty l0 x10_2).size : Int)
                                  · rw [if_pos c20] at H
                                    have c20b0 : decide (x12_3 < ((rdOf ByteArray.empty l0 x10_2).size : Int)) = true := decide_eq_true c20
                                    clear c20
                                    by_cases c22 : (bt (rdOf ByteArray.empty l0 x10_2) x12_3) = 10
                                    · rw [if_pos c22] at H
                                      have c22b0 : ((bt (rdOf ByteArray.empty l0 x10_2) x12_3) == 10) = true := beq_iff_eq.mpr c22
                                      have c22b1 : ((bt (rdOf ByteArray.empty l0 x10_2) x12_3) != 10) = false := bne_eq_false_iff_eq.mpr c22
                                      clear c22
                                      have H' := Aside0.mk H
                                      clear H
                                      have p123 : 0 ≤ (x10_2 : Int) := of_decide_eq_true (by first | (with_reducible assumption) | assumption)
                                      have q123 : x10_2 < (l0.length : Int) := of_decide_eq_true (by first | (with_reducible assumption) | assumption)
                                      obtain ⟨ad123, e123, hx123_0⟩ := Kd.at_string HR0.out x10_2 p123 q123
                                      cases e123
                                      replace hx123_0 := (HB.out.cell (World.block_lt_of_cell? w _ hx123_0)).trans hx123_0
                                      replace p123 := eq_true p123
                                      replace q123 := eq_true q123
                                      have p21 : 0 ≤ (x12_3 : Int) := of_decide_eq_true (by first | (with_reducible assumption) | assumption)
                                      have q21 : x12_3 < ((rdOf ByteArray.empty l0 x10_2).size : Int) := of_decide_eq_true (by first | (with_reducible assumption) | assumption)
                                      have hx21 := bt_at (rdOf ByteArray.empty l0 x10_2) x12_3
                                      replace p21 := eq_true p21
                                      replace q21 := eq_true q21
                                      go_wp2
                                      go_roundg kj11
                                      case measure => have := HJ5.out; have := HK2.out; have := HK3.out; have := HJ11.out; omega
                                      case rel => exact ⟨(x11_3), (wrap64 (x12_3 + 1)), (by first | rfl | (simp; done) | (simp [*]; done)), (by first | rfl | (simp; done) | (simp [*]; done)), H', ⟨by have := HJ5.out; have := HK2.out; have := HK3.out; have := HJ11.out; omega⟩, ⟨by (with_reducible repeat (first | apply Kd.R_alloc | apply Kd.R_drewN | apply Kd.R_drew)); exact HO_9.out⟩, ⟨by repeat (first | (with_reducible first | exact HB.out | apply below_alloc | apply pw_below_drewN | apply below_drew1) | exact HB.out)⟩⟩
                                    · rw [if_neg c22] at H
                                      have c22b0 : ((bt (rdOf ByteArray.empty l0 x10_2) x12_3) == 10) = false := beq_eq_false_iff_ne.mpr c22
                                      have c22b1 : ((bt (rdOf ByteArray.empty l0 x10_2) x12_3) != 10) = true := bne_iff_ne.mpr c22
                                      by_cases c24 : (bt (rdOf ByteArray.empty l0 x10_2) x12_3) = 13
                                      · rw [if_pos c24] at H
                                        have c24b0 : ((bt (rdOf ByteArray.empty l0 x10_2) x12_3) == 13) = true := beq_iff_eq.mpr c24
                                        have c24b1 : ((bt (rdOf ByteArray.empty l0 x10_2) x12_3) != 13) = false := bne_eq_false_iff_eq.mpr c24
                                        clear c24
                                        have H' := Aside0.mk H
                                        clear H
                                        have p123 : 0 ≤ (x10_2 : Int) := of_decide_eq_true (by first | (with_reducible assumption) | assumption)
                                        have q123 : x10_2 < (l0.length : Int) := of_decide_eq_true (by first | (with_reducible assumption) | assumption)
                                        obtain ⟨ad123, e123, hx123_0⟩ := Kd.at_string HR0.out x10_2 p123 q123
                                        cases e123
                                        replace hx123_0 := (HB.out.cell (World.block_lt_of_cell? w _ hx123_0)).trans hx123_0
                                        replace p123 := eq_true p123
                                        replace q123 := eq_true q123
                                        have p21 : 0 ≤ (x12_3 : Int) := of_decide_eq_true (by first | (with_reducible assumption) | assumption)
                                        have q21 : x12_3 < ((rdOf ByteArray.empty l0 x10_2).size : Int) := of_decide_eq_true (by first | (with_reducible assumption) | assumption)
                                        have hx21 := bt_at (rdOf ByteArray.empty l0 x10_2) x12_3
                                        replace p21 := eq_true p21
                                        replace q21 := eq_true q21
                                        have p124 : 0 ≤ (x10_2 : Int) := of_decide_eq_true (by first | (with_reducible assumption) | assumption)
                                        have q124 : x10_2 < (l0.length : Int) := of_decide_eq_true (by first | (with_reducible assumption) | assumption)
                                        obtain ⟨ad124, e124, hx124_0⟩ := Kd.at_string HR0.out x10_2 p124 q124
                                        obtain rfl : ad123 = ad124 := (by injection e124)
                                        replace hx124_0 := (HB.out.cell (World.block_lt_of_cell? w _ hx124_0)).trans hx124_0
                                        replace p124 := eq_true p124
                                        replace q124 := eq_true q124
                                        have p23 : 0 ≤ (x12_3 : Int) := of_decide_eq_true (by first | (with_reducible assumption) | assumption)
                                        have q23 : x12_3 < ((rdOf ByteArray.empty l0 x10_2).size : Int) := of_decide_eq_true (by first | (with_reducible assumption) | assumption)
                                        have hx23 := bt_at (rdOf ByteArray.empty l0 x10_2) x12_3
                                        replace p23 := eq_true p23
                                        replace q23 := eq_true q23
                                        go_wp2
                                        go_roundg kj11
                                        case measure => have := HJ5.out; have := HK2.out; have := HK3.out; have := HJ11.out; omega
                                        case rel => exact ⟨(x11_3), (wrap64 (x12_3 + 1)), (by first | rfl | (simp; done) | (simp [*]; done)), (by first | rfl | (simp; done) | (simp [*]; done)), H', ⟨by have := HJ5.out; have := HK2.out; have := HK3.out; have := HJ11.out; omega⟩, ⟨by (with_reducible repeat (first | apply Kd.R_alloc | apply Kd.R_drewN | apply Kd.R_drew)); exact HO_9.out⟩, ⟨by repeat (first | (with_reducible first | exact HB.out | apply below_alloc | apply pw_below_drewN | apply below_drew1) | exact HB.out)⟩⟩
                                      · rw [if_neg c24] at H
                                        have c24b0 : ((bt (rdOf ByteArray.empty l0 x10_2) x12_3) == 13) = false := beq_eq_false_iff_ne.mpr c24
                                        have c24b1 : ((bt (rdOf ByteArray.empty l0 x10_2) x12_3) != 13) = true := bne_iff_ne.mpr c24
                                        have c25b0 := eq_true (of_decide_eq_true (by first | (with_reducible assumption) | assumption) : 0 ≤ x12_3)
                                        by_cases c26 : x12_3 ≤ (wrap64 (x12_3 + 1))
                                        · rw [if_pos c26] at H
                                          have c26b0 := eq_true c26
                                          have c26b1 : decide (x12_3 ≤ (wrap64 (x12_3 + 1))) = true := decide_eq_true c26
                                          by_cases c27 : (wrap64 (x12_3 + 1)) ≤ ((rdOf ByteArray.empty l0 x10_2).size : Int)
                                          · rw [if_pos c27] at H
                                            have c27b0 := eq_true c27
                                            have c27b1 : decide ((wrap64 (x12_3 + 1)) ≤ ((rdOf ByteArray.empty l0 x10_2).size : Int)) = true := decide_eq_true c27
                                            by_cases c28 : x11_3.size + ((rdOf ByteArray.empty l0 x10_2).extract (x12_3 : Int).toNat ((wrap64 (x12_3 + 1)) : Int).toNat).size ≤ 9223372036854775807
                                            · rw [if_pos c28] at H
                                              have c28b0 := eq_true c28
                                              have c28b1 : decide (x11_3.size + ((rdOf ByteArray.empty l0 x10_2).extract (x12_3 : Int).toNat ((wrap64 (x12_3 + 1)) : Int).toNat).size ≤ 9223372036854775807) = true := decide_eq_true c28
                                              try have c28b2 : (9223372036854775807 < x11_3.size + ((rdOf ByteArray.empty l0 x10_2).extract (x12_3 : Int).toNat ((wrap64 (x12_3 + 1)) : Int).toNat).size) = False := eq_false (Nat.not_lt.2 c28)
                                              (try (have c28h := c28; simp only [ByteArray.size_append, ByteArray.size_extract, Int.toNat_natCast, Nat.sub_zero, Nat.min_self, ByteArray.extract_zero_size] at c28h; have c28b7 := eq_false (Nat.not_lt.2 c28h); clear c28h))
                                              try have c28b5 : (9223372036854775807 < x11_3.size + (((wrap64 (x12_3 + 1)) : Int).toNat - (x12_3 : Int).toNat)) = False := eq_false (Nat.not_lt.2 (by have h_ := c28; (try have e0_ : (wrap64 (x12_3 + 1)) ≤ ((rdOf ByteArray.empty l0 x10_2).size : Int) := of_decide_eq_true (by first | (with_reducible assumption) | assumption)); simp only [ByteArray.size_append, ByteArray.size_extract] at h_ ⊢; omega))
                                              have H' := Aside0.mk H
                                              clear H
                                              have p123 : 0 ≤ (x10_2 : Int) := of_decide_eq_true (by first | (with_reducible assumption) | assumption)
                                              have q123 : x10_2 < (l0.length : Int) := of_decide_eq_true (by first | (with_reducible assumption) | assumption)
                                              obtain ⟨ad123, e123, hx123_0⟩ := Kd.at_string HR0.out x10_2 p123 q123
                                              cases e123
                                              replace hx123_0 := (HB.out.cell (World.block_lt_of_cell? w _ hx123_0)).trans hx123_0
                                              replace p123 := eq_true p123
                                              replace q123 := eq_true q123
                                              have p21 : 0 ≤ (x12_3 : Int) := of_decide_eq_true (by first | (with_reducible assumption) | assumption)
                                              have q21 : x12_3 < ((rdOf ByteArray.empty l0 x10_2).size : Int) := of_decide_eq_true (by first | (with_reducible assumption) | assumption)
                                              have hx21 := bt_at (rdOf ByteArray.empty l0 x10_2) x12_3
                                              replace p21 := eq_true p21
                                              replace q21 := eq_true q21
                                              have p124 : 0 ≤ (x10_2 : Int) := of_decide_eq_true (by first | (with_reducible assumption) | assumption)
                                              have q124 : x10_2 < (l0.length : Int) := of_decide_eq_true (by first | (with_reducible assumption) | assumption)
                                              obtain ⟨ad124, e124, hx124_0⟩ := Kd.at_string HR0.out x10_2 p124 q124
                                              obtain rfl : ad123 = ad124 := (by injection e124)
                                              replace hx124_0 := (HB.out.cell (World.block_lt_of_cell? w _ hx124_0)).trans hx124_0
                                              replace p124 := eq_true p124
                                              replace q124 := eq_true q124
                                              have p23 : 0 ≤ (x12_3 : Int) := of_decide_eq_true (by first | (with_reducible assumption) | assumption)
                                              have q23 : x12_3 < ((rdOf ByteArray.empty l0 x10_2).size : Int) := of_decide_eq_true (by first | (with_reducible assumption) | assumption)
                                              have hx23 := bt_at (rdOf ByteArray.empty l0 x10_2) x12_3
                                              replace p23 := eq_true p23
                                              replace q23 := eq_true q23
                                              have p125 : 0 ≤ (x10_2 : Int) := of_decide_eq_true (by first | (with_reducible assumption) | assumption)
                                              have q125 : x10_2 < (l0.length : Int) := of_decide_eq_true (by first | (with_reducible assumption) | assumption)
                                              obtain ⟨ad125, e125, hx125_0⟩ := Kd.at_string HR0.out x10_2 p125 q125
                                              obtain rfl : ad123 = ad125 := (by injection e125)
                                              replace hx125_0 := (HB.out.cell (World.block_lt_of_cell? w _ hx125_0)).trans hx125_0
                                              replace p125 := eq_true p125
                                              replace q125 := eq_true q125
                                              go_wp2
                                              go_roundg kj11
                                              case measure => have := HJ5.out; have := HK2.out; have := HK3.out; have := HJ11.out; omega
                                              case rel => exact ⟨(x11_3 ++ ((rdOf ByteArray.empty l0 x10_2).extract (x12_3 : Int).toNat ((wrap64 (x12_3 + 1)) : Int).toNat)), (wrap64 (x12_3 + 1)), (by first | rfl | (simp; done) | (simp [*]; done)), (by first | rfl | (simp; done) | (simp [*]; done)), H', ⟨by have := HJ5.out; have := HK2.out; have := HK3.out; have := HJ11.out; omega⟩, ⟨by (with_reducible repeat (first | apply Kd.R_alloc | apply Kd.R_drewN | apply Kd.R_drew)); exact HO_9.out⟩, ⟨by repeat (first | (with_reducible first | exact HB.out | apply below_alloc | apply pw_below_drewN | apply below_drew1) | exact HB.out)⟩⟩
                                            · rw [if_neg c28] at H
                                              exact absurd H (by simp)
                                          · rw [if_neg c27] at H
                                            exact absurd H (by simp)
                                        · rw [if_neg c26] at H
                                          exact absurd H (by simp)
                                  · rw [if_neg c20] at H
                                    exact absurd H (by simp)
                                · rw [if_neg c19] at H
                                  exact absurd H (by simp)
                              · rw [if_neg c18] at H
                                exact absurd H (by simp)
                            · rw [if_neg c17] at H
                              exact absurd H (by simp)
                          · replace c16 := Bool.eq_false_iff.mpr c16
                            subst c16
                            have H1 : (if x8_2.size + x11_3.size ≤ 9223372036854775807 then (if x10_2 = (wrap64 ((l0.length : Int) - 1)) then (letterboxlaw05_LinesJoined.j4 kj11 l0 l1 a2 (x8_2 ++ x11_3) x9_2 x10_2 x11_3 a2) else (letterboxlaw05_LinesJoined.j4 kj11 l0 l1 a2 (x8_2 ++ x11_3) x9_2 x10_2 x11_3 false)) else (none)) = some r := by rw [if_neg (show ¬ (false = true) by decide)] at H; exact H
                            clear H
                            have H := H1
                            clear H1
                            by_cases c29 : x8_2.size + x11_3.size ≤ 9223372036854775807
                            · rw [if_pos c29] at H
                              have c29b0 := eq_true c29
                              have c29b1 : decide (x8_2.size + x11_3.size ≤ 9223372036854775807) = true := decide_eq_true c29
                              try have c29b2 : (9223372036854775807 < x8_2.size + x11_3.size) = False := eq_false (Nat.not_lt.2 c29)
                              have HC30 := Aside0.mk H
                              clear H
                              go_upto_region 18 with (fail)
                              go_cut [83] (fun v83 wc => ∃ (kq : Nat) (x83_29 : Bool), v83 = .bool x83_29 ∧ Aside0 (letterboxlaw05_LinesJoined.j4 kq l0 l1 a2 (x8_2 ++ x11_3) x9_2 x10_2 x11_3 x83_29 = some r) ∧ Aside0 (kq ≤ kj11) ∧ Aside0 (Kd.R Kd.string 9 wc w.heap.size (fun _ => True) u9 x9_2) ∧ Aside0 (Below w.heap.size w wc))
                              case first =>
                                have H := HC30.out
                                clear HC30
                                by_cases c31 : x10_2 = (wrap64 ((l0.length : Int) - 1))
                                · rw [if_pos c31] at H
                                  have c31b0 : (x10_2 == (wrap64 ((l0.length : Int) - 1))) = true := beq_iff_eq.mpr c31
                                  have c31b1 : (x10_2 != (wrap64 ((l0.length : Int) - 1))) = false := bne_eq_false_iff_eq.mpr c31
                                  clear c31
                                  (first | rw [c31b0] | (simp only [i64_w, i32_w]; rw [c31b0]) | skip)
                                  have H' := Aside0.mk H
                                  clear H
                                  go_wp2
                                  go_meet
                                  case rel => exact ⟨_, (a2), (by first | rfl | (simp; done) | (simp [*]; done)), H', ⟨by have := HJ5.out; have := HK2.out; have := HK3.out; have := HJ11.out; first | omega | exact Nat.le_refl _⟩, ⟨by (with_reducible repeat (first | apply Kd.R_alloc | apply Kd.R_drewN | apply Kd.R_drew)); exact HO_9.out⟩, ⟨by repeat (first | (with_reducible first | exact HB.out | apply below_alloc | apply pw_below_drewN | apply below_drew1) | exact HB.out)⟩⟩
                                · rw [if_neg c31] at H
                                  have c31b0 : (x10_2 == (wrap64 ((l0.length : Int) - 1))) = false := beq_eq_false_iff_ne.mpr c31
                                  have c31b1 : (x10_2 != (wrap64 ((l0.length : Int) - 1))) = true := bne_iff_ne.mpr c31
                                  (first | rw [c31b0] | (simp only [i64_w, i32_w]; rw [c31b0]) | skip)
                                  have H' := Aside0.mk H
                                  clear H
                                  go_wp2
                                  go_meet
                                  case rel => exact ⟨_, (false), (by first | rfl | (simp; done) | (simp [*]; done)), H', ⟨by have := HJ5.out; have := HK2.out; have := HK3.out; have := HJ11.out; first | omega | exact Nat.le_refl _⟩, ⟨by (with_reducible repeat (first | apply Kd.R_alloc | apply Kd.R_drewN | apply Kd.R_drew)); exact HO_9.out⟩, ⟨by repeat (first | (with_reducible first | exact HB.out | apply below_alloc | apply pw_below_drewN | apply below_drew1) | exact HB.out)⟩⟩
                              case rest =>
                                clear HC30
                                try clear c1
                                try clear p1
                                try clear q1
                                try clear hx1
                                try clear c2
                                try clear p2
                                try clear q2
                                try clear hx2
                                try clear c3
                                try clear c4
                                try clear c5
                                try clear p6
                                try clear c7
                                try clear c8
                                try clear c8b0
                                try clear c8b1
                                try clear c9
                                try clear c11
                                try clear c11b0
                                try clear p12
                                try clear q12
                                try clear hx12
                                try clear c13
                                try clear c13b0
                                try clear c14
                                try clear c14b0
                                try clear c15
                                try clear c15b0
                                try clear c16
                                try clear c17
                                try clear c17b0
                                try clear c18
                                try clear c18b0
                                try clear c19
                                try clear c19b0
                                try clear c20
                                try clear c20b0
                                try clear p21
                                try clear q21
                                try clear hx21
                                try clear c22
                                try clear c22b0
                                try clear c22b1
                                try clear p23
                                try clear q23
                                try clear hx23
                                try clear c24
                                try clear c24b0
                                try clear c24b1
                                try clear c25
                                try clear c25b0
                                try clear c26
                                try clear c26b0
                                try clear c26b1
                                try clear c27
                                try clear c27b0
                                try clear c27b1
                                try clear c28
                                try clear c28b0
                                try clear c28b1
                                try clear c28b2
                                try clear c29
                                try clear c29b0
                                try clear c29b1
                                try clear c29b2
                                try clear c31
                                try clear c31b0
                                try clear c31b1
                                try clear hx122_0
                                try clear hx123_0
                                try clear hx124_0
                                try clear hx125_0
                                try clear p1
                                try clear p12
                                try clear p122
                                try clear p123
                                try clear p124
                                try clear p125
                                try clear p2
                                try clear p21
                                try clear p23
                                try clear q1
                                try clear q12
                                try clear q122
                                try clear q123
                                try clear q124
                                try clear q125
                                try clear q21
                                try clear q23
                                obtain ⟨kq, x83_29, rfl, HA, HJ29, HO_9, HB⟩ := hcut
                                cases kq with
                                | zero => exact absurd HA.out (by simp [letterboxlaw05_LinesJoined.j4])
                                | succ kj29 =>
                                  have H := HA.out
                                  clear HA
                                  simp only [letterboxlaw05_LinesJoined.j4] at H
                                  by_cases c32 : x83_29 = true
                                  · subst c32
                                    have H1 : (if x11_3.toList = ([] : List UInt8) then (letterboxlaw05_LinesJoined.j5 kj29 (x8_2 ++ x11_3) x9_2) else (if x9_2.length < 8796093022208 then (letterboxlaw05_LinesJoined.j5 kj29 (x8_2 ++ x11_3) (x9_2 ++ [x11_3])) else (none))) = some r := by rw [if_pos rfl] at H; exact H
                                    clear H
                                    have H := H1
                                    clear H1
                                    by_cases c33 : x11_3.toList = ([] : List UInt8)
                                    · rw [if_pos c33] at H
                                      have c33b0 : (x11_3.toList == ([] : List UInt8)) = true := beq_iff_eq.mpr c33
                                      have c33b1 : (x11_3.toList != ([] : List UInt8)) = false := bne_eq_false_iff_eq.mpr c33
                                      clear c33
                                      have H' := Aside0.mk H
                                      clear H
                                      go_wp2
                                      go_meet
                                      case rel => exact ⟨_, ((x8_2 ++ x11_3)), (x9_2), (by first | rfl | (simp; done) | (simp [*]; done)), H', ⟨by have := HJ5.out; have := HK2.out; have := HK3.out; have := HJ11.out; have := HJ29.out; first | omega | exact Nat.le_refl _⟩, ⟨by (with_reducible repeat (first | apply Kd.R_alloc | apply Kd.R_drewN | apply Kd.R_drew)); exact HO_9.out⟩, ⟨by repeat (first | (with_reducible first | exact HB.out | apply below_alloc | apply pw_below_drewN | apply below_drew1) | exact HB.out)⟩⟩
                                    · rw [if_neg c33] at H
                                      have c33b0 : (x11_3.toList == ([] : List UInt8)) = false := beq_eq_false_iff_ne.mpr c33
                                      have c33b1 : (x11_3.toList != ([] : List UInt8)) = true := bne_iff_ne.mpr c33
                                      by_cases c34 : x9_2.length < 8796093022208
                                      · rw [if_pos c34] at H
                                        have LMc34 := Aside0.mk c34
                                        clear c34
                                        obtain ⟨y126, hy126⟩ : ∃ y_ : List ByteArray, y_ = (x9_2 ++ [x11_3]) := ⟨_, rfl⟩
                                        replace H : (letterboxlaw05_LinesJoined.j5 kj29 (x8_2 ++ x11_3) y126) = some r := by first | (rw [hy126]; with_reducible exact H) | (have H2_ := (Option.bind_some _ _).symm.trans H; rw [hy126]; with_reducible exact H2_) | (have H2_ := (Option.bind_some _ _).symm.trans H; with_reducible exact H2_) | with_reducible exact H | (rw [hy126]; exact H) | exact H
                                        have Ny126 := Aside0.mk hy126
                                        clear hy126
                                        have H' := Aside0.mk H
                                        clear H
                                        go_wp2_with (first | ((with_reducible refine gate_builtin (b := .append) (xs := #[.tmp 86, .tmp 88]) rfl ?_); (try (refine gate_guard (by rfl) ?_; dsimp only)); at_builtin; refine Kd.R_append Kd.string (w0 := w) w.heap.size rfl (.tmp 86) (.tmp 88) 31 9 (.string ⟨#[]⟩) 16 rfl Try.underlying31 info9 rfl (by decide) (by omega) u9 x9_2 x11_3 [.string x11_3] (fun _ => True) (fun _ => False) rfl rfl ?aP (fun _ hk => hk.elim) ?aF ?aO ?aB ?aS ?aL ?_; (case aP => exact rfl); (case aB => exact (by repeat (first | (with_reducible first | exact HB.out | apply below_alloc | apply pw_below_drewN | apply below_drew1) | exact HB.out))); (case aF => exact (fun _ _ => trivial)); (case aO => exact (by (with_reducible repeat (first | apply Kd.R_alloc | apply Kd.R_drewN | apply Kd.R_drew)); exact HO_9.out)); (case aS => exact (below_size (by repeat (first | (with_reducible first | exact HB.out | apply below_alloc | apply pw_below_drewN | apply below_drew1) | exact HB.out)))); (case aL => have := LMc34.out; omega); intro v127 w35 ho hb hg hat; rw [← Ny126.out] at ho; have n0_ := Aside0.mk (hb); have n1_ := Aside0.mk (ho); clear HB; clear HO_9; have HB := n0_; have HO128 := n1_; clear n0_ n1_; clear ho hb hg hat))
                                        go_meet
                                        case rel => exact ⟨_, ((x8_2 ++ x11_3)), (y126), (by first | rfl | (simp; done) | (simp [*]; done)), H', ⟨by have := HJ5.out; have := HK2.out; have := HK3.out; have := HJ11.out; have := HJ29.out; first | omega | exact Nat.le_refl _⟩, ⟨by (with_reducible repeat (first | apply Kd.R_alloc | apply Kd.R_drewN | apply Kd.R_drew)); exact HO128.out⟩, ⟨by repeat (first | (with_reducible first | exact HB.out | apply below_alloc | apply pw_below_drewN | apply below_drew1) | exact HB.out)⟩⟩
                                      · rw [if_neg c34] at H
                                        exact absurd H (by simp)
                                  · replace c32 := Bool.eq_false_iff.mpr c32
                                    subst c32
                                    have H1 : (if 0 ≤ x10_2 then (if x10_2 < (l1.length : Int) then (if (Go.bits .and .u8 (rd l1 x10_2) 1) = 1 then (if (x8_2 ++ x11_3).size + 1 ≤ 9223372036854775807 then (if ((x8_2 ++ x11_3) ++ (⟨#[13]⟩ : ByteArray)).size + 1 ≤ 9223372036854775807 then (if x9_2.length < 8796093022208 then (letterboxlaw05_LinesJoined.l0 kj29 l0 l1 a2 (((x8_2 ++ x11_3) ++ (⟨#[13]⟩ : ByteArray)) ++ (⟨#[10]⟩ : ByteArray)) (x9_2 ++ [x11_3]) (wrap64 (x10_2 + 1))) else (none)) else (none)) else (none)) else (if (x8_2 ++ x11_3).size + 1 ≤ 9223372036854775807 then (if x9_2.length < 8796093022208 then (letterboxlaw05_LinesJoined.l0 kj29 l0 l1 a2 ((x8_2 ++ x11_3) ++ (⟨#[10]⟩ : ByteArray)) (x9_2 ++ [x11_3]) (wrap64 (x10_2 + 1))) else (none)) else (none))) else (none)) else (none)) = some r := by rw [if_neg (show ¬ (false = true) by decide)] at H; exact H
                                    clear H
                                    have H := H1
                                    clear H1
                                    by_cases c36 : 0 ≤ x10_2
                                    · rw [if_pos c36] at H
                                      have c36b0 : decide (0 ≤ x10_2) = true := decide_eq_true c36
                                      clear c36
                                      by_cases c37 : x10_2 < (l1.length : Int)
                                      · rw [if_pos c37] at H
                                        have c37b0 : decide (x10_2 < (l1.length : Int)) = true := decide_eq_true c37
                                        clear c37
                                        by_cases c38 : (Go.bits .and .u8 (rd l1 x10_2) 1) = 1
                                        · rw [if_pos c38] at H
                                          have c38b0 : ((Go.bits .and .u8 (rd l1 x10_2) 1) == 1) = true := beq_iff_eq.mpr c38
                                          have c38b1 : ((Go.bits .and .u8 (rd l1 x10_2) 1) != 1) = false := bne_eq_false_iff_eq.mpr c38
                                          clear c38
                                          by_cases c39 : (x8_2 ++ x11_3).size + 1 ≤ 9223372036854775807
                                          · rw [if_pos c39] at H
                                            have c39b0 := eq_true c39
                                            have c39b1 : decide ((x8_2 ++ x11_3).size + 1 ≤ 9223372036854775807) = true := decide_eq_true c39
                                            try have c39b2 : (9223372036854775807 < (x8_2 ++ x11_3).size + 1) = False := eq_false (Nat.not_lt.2 c39)
                                            try have c39b4 : (9223372036854775807 < x8_2.size + x11_3.size + 1) = False := eq_false (Nat.not_lt.2 (by have h_ := c39; simp only [ByteArray.size_append] at h_; exact h_))
                                            by_cases c40 : ((x8_2 ++ x11_3) ++ (⟨#[13]⟩ : ByteArray)).size + 1 ≤ 9223372036854775807
                                            · rw [if_pos c40] at H
                                              have c40b0 := eq_true c40
                                              have c40b1 : decide (((x8_2 ++ x11_3) ++ (⟨#[13]⟩ : ByteArray)).size + 1 ≤ 9223372036854775807) = true := decide_eq_true c40
                                              try have c40b2 : (9223372036854775807 < ((x8_2 ++ x11_3) ++ (⟨#[13]⟩ : ByteArray)).size + 1) = False := eq_false (Nat.not_lt.2 c40)
                                              try have c40b4 : (9223372036854775807 < x8_2.size + x11_3.size + 1 + 1) = False := eq_false (Nat.not_lt.2 (by have h_ := c40; simp only [ByteArray.size_append] at h_; exact h_))
                                              by_cases c41 : x9_2.length < 8796093022208
                                              · rw [if_pos c41] at H
                                                have LMc41 := Aside0.mk c41
                                                clear c41
                                                obtain ⟨y130, hy130⟩ : ∃ y_ : List ByteArray, y_ = (x9_2 ++ [x11_3]) := ⟨_, rfl⟩
                                                replace H : (letterboxlaw05_LinesJoined.l0 kj29 l0 l1 a2 (((x8_2 ++ x11_3) ++ (⟨#[13]⟩ : ByteArray)) ++ (⟨#[10]⟩ : ByteArray)) y130 (wrap64 (x10_2 + 1))) = some r := by first | (rw [hy130]; with_reducible exact H) | (have H2_ := (Option.bind_some _ _).symm.trans H; rw [hy130]; with_reducible exact H2_) | (have H2_ := (Option.bind_some _ _).symm.trans H; with_reducible exact H2_) | with_reducible exact H | (rw [hy130]; exact H) | exact H
                                                have Ny130 := Aside0.mk hy130
                                                clear hy130
                                                have H' := Aside0.mk H
                                                clear H
                                                have p129 : 0 ≤ (x10_2 : Int) := of_decide_eq_true (by first | (with_reducible assumption) | assumption)
                                                have q129 : x10_2 < (l1.length : Int) := of_decide_eq_true (by first | (with_reducible assumption) | assumption)
                                                obtain ⟨ad129, e129, hx129_0⟩ := Kd.at_int HR1.out x10_2 p129 q129
                                                cases e129
                                                replace hx129_0 := (HB.out.cell (World.block_lt_of_cell? w _ hx129_0)).trans hx129_0
                                                replace p129 := eq_true p129
                                                replace q129 := eq_true q129
                                                go_wp2_with (first | ((with_reducible refine gate_builtin (b := .append) (xs := #[.tmp 100, .tmp 102]) rfl ?_); (try (refine gate_guard (by rfl) ?_; dsimp only)); at_builtin; refine Kd.R_append Kd.string (w0 := w) w.heap.size rfl (.tmp 100) (.tmp 102) 31 9 (.string ⟨#[]⟩) 16 rfl Try.underlying31 info9 rfl (by decide) (by omega) u9 x9_2 x11_3 [.string x11_3] (fun _ => True) (fun _ => False) rfl rfl ?aP (fun _ hk => hk.elim) ?aF ?aO ?aB ?aS ?aL ?_; (case aP => exact rfl); (case aB => exact (by repeat (first | (with_reducible first | exact HB.out | apply below_alloc | apply pw_below_drewN | apply below_drew1) | exact HB.out))); (case aF => exact (fun _ _ => trivial)); (case aO => exact (by (with_reducible repeat (first | apply Kd.R_alloc | apply Kd.R_drewN | apply Kd.R_drew)); exact HO_9.out)); (case aS => exact (below_size (by repeat (first | (with_reducible first | exact HB.out | apply below_alloc | apply pw_below_drewN | apply below_drew1) | exact HB.out)))); (case aL => have := LMc41.out; omega); intro v131 w42 ho hb hg hat; rw [← Ny130.out] at ho; have n0_ := Aside0.mk (hb); have n1_ := Aside0.mk (ho); clear HB; clear HO_9; have HB := n0_; have HO132 := n1_; clear n0_ n1_; clear ho hb hg hat))
                                                go_roundg kj29
                                                case measure => have := HJ5.out; have := HK2.out; have := HK3.out; have := HJ11.out; have := HJ29.out; omega
                                                case rel => exact ⟨(((x8_2 ++ x11_3) ++ (⟨#[13]⟩ : ByteArray)) ++ (⟨#[10]⟩ : ByteArray)), (y130), (wrap64 (x10_2 + 1)), (by first | rfl | (simp; done) | (simp [*]; done)), (by first | rfl | (simp; done) | (simp [*]; done)), H', ⟨by have := HJ5.out; have := HK2.out; have := HK3.out; have := HJ11.out; have := HJ29.out; omega⟩, ⟨by (with_reducible repeat (first | apply Kd.R_alloc | apply Kd.R_drewN | apply Kd.R_drew)); exact HO132.out⟩, ⟨by repeat (first | (with_reducible first | exact HB.out | apply below_alloc | apply pw_below_drewN | apply below_drew1) | exact HB.out)⟩⟩
                                              · rw [if_neg c41] at H
                                                exact absurd H (by simp)
                                            · rw [if_neg c40] at H
                                              exact absurd H (by simp)
                                          · rw [if_neg c39] at H
                                            exact absurd H (by simp)
                                        · rw [if_neg c38] at H
                                          have c38b0 : ((Go.bits .and .u8 (rd l1 x10_2) 1) == 1) = false := beq_eq_false_iff_ne.mpr c38
                                          have c38b1 : ((Go.bits .and .u8 (rd l1 x10_2) 1) != 1) = true := bne_iff_ne.mpr c38
                                          by_cases c43 : (x8_2 ++ x11_3).size + 1 ≤ 9223372036854775807
                                          · rw [if_pos c43] at H
                                            have c43b0 := eq_true c43
                                            have c43b1 : decide ((x8_2 ++ x11_3).size + 1 ≤ 9223372036854775807) = true := decide_eq_true c43
                                            try have c43b2 : (9223372036854775807 < (x8_2 ++ x11_3).size + 1) = False := eq_false (Nat.not_lt.2 c43)
                                            try have c43b4 : (9223372036854775807 < x8_2.size + x11_3.size + 1) = False := eq_false (Nat.not_lt.2 (by have h_ := c43; simp only [ByteArray.size_append] at h_; exact h_))
                                            by_cases c44 : x9_2.length < 8796093022208
                                            · rw [if_pos c44] at H
                                              have LMc44 := Aside0.mk c44
                                              clear c44
                                              obtain ⟨y133, hy133⟩ : ∃ y_ : List ByteArray, y_ = (x9_2 ++ [x11_3]) := ⟨_, rfl⟩
                                              replace H : (letterboxlaw05_LinesJoined.l0 kj29 l0 l1 a2 ((x8_2 ++ x11_3) ++ (⟨#[10]⟩ : ByteArray)) y133 (wrap64 (x10_2 + 1))) = some r := by first | (rw [hy133]; with_reducible exact H) | (have H2_ := (Option.bind_some _ _).symm.trans H; rw [hy133]; with_reducible exact H2_) | (have H2_ := (Option.bind_some _ _).symm.trans H; with_reducible exact H2_) | with_reducible exact H | (rw [hy133]; exact H) | exact H
                                              have Ny133 := Aside0.mk hy133
                                              clear hy133
                                              have H' := Aside0.mk H
                                              clear H
                                              have p129 : 0 ≤ (x10_2 : Int) := of_decide_eq_true (by first | (with_reducible assumption) | assumption)
                                              have q129 : x10_2 < (l1.length : Int) := of_decide_eq_true (by first | (with_reducible assumption) | assumption)
                                              obtain ⟨ad129, e129, hx129_0⟩ := Kd.at_int HR1.out x10_2 p129 q129
                                              cases e129
                                              replace hx129_0 := (HB.out.cell (World.block_lt_of_cell? w _ hx129_0)).trans hx129_0
                                              replace p129 := eq_true p129
                                              replace q129 := eq_true q129
                                              go_wp2_with (first | ((with_reducible refine gate_builtin (b := .append) (xs := #[.tmp 100, .tmp 102]) rfl ?_); (try (refine gate_guard (by rfl) ?_; dsimp only)); at_builtin; refine Kd.R_append Kd.string (w0 := w) w.heap.size rfl (.tmp 100) (.tmp 102) 31 9 (.string ⟨#[]⟩) 16 rfl Try.underlying31 info9 rfl (by decide) (by omega) u9 x9_2 x11_3 [.string x11_3] (fun _ => True) (fun _ => False) rfl rfl ?aP (fun _ hk => hk.elim) ?aF ?aO ?aB ?aS ?aL ?_; (case aP => exact rfl); (case aB => exact (by repeat (first | (with_reducible first | exact HB.out | apply below_alloc | apply pw_below_drewN | apply below_drew1) | exact HB.out))); (case aF => exact (fun _ _ => trivial)); (case aO => exact (by (with_reducible repeat (first | apply Kd.R_alloc | apply Kd.R_drewN | apply Kd.R_drew)); exact HO_9.out)); (case aS => exact (below_size (by repeat (first | (with_reducible first | exact HB.out | apply below_alloc | apply pw_below_drewN | apply below_drew1) | exact HB.out)))); (case aL => have := LMc44.out; omega); intro v134 w45 ho hb hg hat; rw [← Ny133.out] at ho; have n0_ := Aside0.mk (hb); have n1_ := Aside0.mk (ho); clear HB; clear HO_9; have HB := n0_; have HO135 := n1_; clear n0_ n1_; clear ho hb hg hat))
                                              go_roundg kj29
                                              case measure => have := HJ5.out; have := HK2.out; have := HK3.out; have := HJ11.out; have := HJ29.out; omega
                                              case rel => exact ⟨((x8_2 ++ x11_3) ++ (⟨#[10]⟩ : ByteArray)), (y133), (wrap64 (x10_2 + 1)), (by first | rfl | (simp; done) | (simp [*]; done)), (by first | rfl | (simp; done) | (simp [*]; done)), H', ⟨by have := HJ5.out; have := HK2.out; have := HK3.out; have := HJ11.out; have := HJ29.out; omega⟩, ⟨by (with_reducible repeat (first | apply Kd.R_alloc | apply Kd.R_drewN | apply Kd.R_drew)); exact HO135.out⟩, ⟨by repeat (first | (with_reducible first | exact HB.out | apply below_alloc | apply pw_below_drewN | apply below_drew1) | exact HB.out)⟩⟩
                                            · rw [if_neg c44] at H
                                              exact absurd H (by simp)
                                          · rw [if_neg c43] at H
                                            exact absurd H (by simp)
                                      · rw [if_neg c37] at H
                                        exact absurd H (by simp)
                                    · rw [if_neg c36] at H
                                      exact absurd H (by simp)
                            · rw [if_neg c29] at H
                              exact absurd H (by simp)
                · rw [if_neg c11] at H
                  have c11b0 : decide (x10_2 < (l0.length : Int)) = false := decide_eq_false c11
                  clear c11
                  (first | rw [c11b0] | (simp only [i64_w, i32_w]; rw [c11b0]) | skip)
                  have H' := Aside0.mk H
                  clear H
                  go_wp2
                  go_meet
                  case rel => exact ⟨_, (x8_2), (x9_2), (by first | rfl | (simp; done) | (simp [*]; done)), H', ⟨by have := HJ5.out; have := HK2.out; first | omega | exact Nat.le_refl _⟩, ⟨by (with_reducible repeat (first | apply Kd.R_alloc | apply Kd.R_drewN | apply Kd.R_drew)); exact HO_9.out⟩, ⟨by repeat (first | (with_reducible first | exact HB.out | apply below_alloc | apply pw_below_drewN | apply below_drew1) | exact HB.out)⟩⟩
          case rest =>
            clear HC10
            try clear c1
            try clear p1
            try clear q1
            try clear hx1
            try clear c2
            try clear p2
            try clear q2
            try clear hx2
            try clear c3
            try clear c4
            try clear c5
            try clear p6
            try clear c7
            try clear c8
            try clear c8b0
            try clear c8b1
            try clear c9
            try clear c11
            try clear c11b0
            try clear p12
            try clear q12
            try clear hx12
            try clear c13
            try clear c13b0
            try clear c14
            try clear c14b0
            try clear c15
            try clear c15b0
            try clear c16
            try clear c17
            try clear c17b0
            try clear c18
            try clear c18b0
            try clear c19
            try clear c19b0
            try clear c20
            try clear c20b0
            try clear p21
            try clear q21
            try clear hx21
            try clear c22
            try clear c22b0
            try clear c22b1
            try clear p23
            try clear q23
            try clear hx23
            try clear c24
            try clear c24b0
            try clear c24b1
            try clear c25
            try clear c25b0
            try clear c26
            try clear c26b0
            try clear c26b1
            try clear c27
            try clear c27b0
            try clear c27b1
            try clear c28
            try clear c28b0
            try clear c28b1
            try clear c28b2
            try clear c29
            try clear c29b0
            try clear c29b1
            try clear c29b2
            try clear c31
            try clear c31b0
            try clear c31b1
            try clear c32
            try clear c33
            try clear c33b0
            try clear c33b1
            try clear c34
            try clear c36
            try clear c36b0
            try clear c37
            try clear c37b0
            try clear c38
            try clear c38b0
            try clear c38b1
            try clear c39
            try clear c39b0
            try clear c39b1
            try clear c39b2
            try clear c40
            try clear c40b0
            try clear c40b1
            try clear c40b2
            try clear c41
            try clear c43
            try clear c43b0
            try clear c43b1
            try clear c43b2
            try clear c44
            try clear hx122_0
            try clear hx123_0
            try clear hx124_0
            try clear hx125_0
            try clear hx129_0
            try clear p1
            try clear p12
            try clear p122
            try clear p123
            try clear p124
            try clear p125
            try clear p129
            try clear p2
            try clear p21
            try clear p23
            try clear p6
            try clear q1
            try clear q12
            try clear q122
            try clear q123
            try clear q124
            try clear q125
            try clear q129
            try clear q2
            try clear q21
            try clear q23
            obtain ⟨kq, x8_9, x9_9, rfl, HA, HJ9, HO_9, HB⟩ := hcut
            cases kq with
            | zero => exact absurd HA.out (by simp [letterboxlaw05_LinesJoined.j5])
            | succ kj9 =>
              have H := HA.out
              clear HA
              simp only [letterboxlaw05_LinesJoined.j5] at H
              by_cases c46 : x8_9.size ≤ 9223372036854775807
              · rw [if_pos c46] at H
                have c46b0 := eq_true c46
                have c46b1 : decide (x8_9.size ≤ 9223372036854775807) = true := decide_eq_true c46
                try have c46b2 : (9223372036854775807 < x8_9.size) = False := eq_false (Nat.not_lt.2 c46)
                clear c46
                obtain ⟨y136, hy136⟩ : ∃ y_ : List Int, y_ = (bytesOf x8_9) := ⟨_, rfl⟩
                replace H : ((lines_Of.f y136 0 (x8_9.size : Int)).bind fun t139 => (if (t139.length : Int) = (x9_9.length : Int) then (letterboxlaw05_LinesJoined.l2 kj9 x8_9 x9_9 t139 0) else (some false))) = some r := by first | (rw [hy136]; with_reducible exact H) | (have H2_ := (Option.bind_some _ _).symm.trans H; rw [hy136]; with_reducible exact H2_) | (have H2_ := (Option.bind_some _ _).symm.trans H; with_reducible exact H2_) | with_reducible exact H | (rw [hy136]; exact H) | exact H
                have Ny136 := Aside0.mk hy136
                clear hy136
                replace H := Option.bind_eq_some_iff.mp H
                obtain ⟨t139, A470, H⟩ := H
                replace H : (if (t139.length : Int) = (x9_9.length : Int) then (letterboxlaw05_LinesJoined.l2 kj9 x8_9 x9_9 t139 0) else (some false)) = some r := H
                have A47 := Aside0.mk A470
                clear A470
                by_cases c48 : (t139.length : Int) = (x9_9.length : Int)
                · rw [if_pos c48] at H
                  have c48b0 : ((t139.length : Int) == (x9_9.length : Int)) = true := beq_iff_eq.mpr c48
                  have c48b1 : ((t139.length : Int) != (x9_9.length : Int)) = false := bne_eq_false_iff_eq.mpr c48
                  have c48b2 : (t139.length == x9_9.length) = true := by first | simpa using c48 | (simp at c48 ⊢; omega)
                  clear c48
                  have H' := Aside0.mk H
                  clear H
                  go_wp2_with (first | ((with_reducible refine gate_dst (N := 105) rfl ?_); (try (refine gate_guard (by rfl) ?_; dsimp only)); refine Conv.bytes _ 5 rfl (N := 105) rfl 9 22 _ rfl x8_9 rfl Try.underlying9 Try.underlying22 Try.underlying5 (of_decide_eq_true (by first | (with_reducible assumption) | assumption)) (ok := (fun k_ => some k_ ≠ (u9 : Value).ownBlock)) ((show ∀ k_, wc.heap.size ≤ k_ → (fun k_ => some k_ ≠ (u9 : Value).ownBlock) k_ from fun k_ hk => Kd.fresh' (Kd.R_lt (by (with_reducible repeat (first | apply Kd.R_alloc | apply Kd.R_drewN | apply Kd.R_drew)); exact HO_9.out)) k_ hk) _ (Nat.le_refl _)) (Below.refl _ _) (Nat.le_refl _) ?_; intro v137 w49 ho50 hb hg_ hnew_; clear hg_ hnew_; (first | rw [← Ny136.out] at ho50 | (simp only [Int.reduceToNat] at ho50; rw [← Ny136.out] at ho50)); have n0_ := Aside0.mk (Kd.R_below (by (with_reducible repeat (first | apply Kd.R_alloc | apply Kd.R_drewN | apply Kd.R_drew)); exact HO_9.out) hb); have n1_ := Aside0.mk (Kd.V_lower ho50 (below_size (by repeat (first | (with_reducible first | exact HB.out | apply below_alloc | apply pw_below_drewN | apply below_drew1) | exact HB.out)))); have n2_ := Aside0.mk (below_step (by repeat (first | (with_reducible first | exact HB.out | apply below_alloc | apply pw_below_drewN | apply below_drew1) | exact HB.out)) hb); clear HO_9; clear HB; have HO_9 := n0_; have HO138 := n1_; have HB := n2_; clear n0_ n1_ n2_; clear hb ho50; obtain ⟨Ao51, co51, eo51⟩ := Kd.V_slice HO138.out; subst eo51) | ((with_reducible refine gate_callee (f := 8) rfl ?_); refine goesL_ (some 109) rfl rfl Try.func8 (by kernel_rfl) rfl #[.slice Ao51 y136.length co51, .agg #[.int .i64 0, .int .i64 (x8_9.size : Int)]] rfl (by (try simp only [List.map_toArray, List.map_cons, List.map_nil]); first | done | rfl | (simp only [List.length_drop, List.length_take]; rfl)) ?_; (with_reducible refine (lines_Of.calls _ _ y136 0 (x8_9.size : Int) t139 _ ?side1 ?side2 A47.out).mono ?_); (case side1 => repeat (first | exact (Kd.V_reads' HO138.out).2.2 | (with_reducible refine Kd.C_alloc ?_ _) | (with_reducible refine Kd.C_drewN ?_ _) | (with_reducible refine Kd.C_drew ?_))); (case side2 => exact (Kd.V_reads' HO138.out).2.1); rintro e w52 ⟨v140, rfl, ho0, hb⟩; refine ⟨_, rfl, ?_⟩; have n0_ := Aside0.mk (Kd.R_below (by (with_reducible repeat (first | apply Kd.R_alloc | apply Kd.R_drewN | apply Kd.R_drew)); exact HO_9.out) hb); have n1_ := Aside0.mk (Kd.V_elder' (by (with_reducible repeat (first | apply Kd.V_alloc | apply Kd.V_drewN | apply Kd.V_drew)); exact HO138.out) (Kd.R_base ho0) hb); have n2_ := Aside0.mk (Kd.R_lower ho0 (below_size (by repeat (first | (with_reducible first | exact HB.out | apply below_alloc | apply pw_below_drewN | apply below_drew1) | exact HB.out)))); have n3_ := Aside0.mk (below_step (by repeat (first | (with_reducible first | exact HB.out | apply below_alloc | apply pw_below_drewN | apply below_drew1) | exact HB.out)) hb); clear HO_9; clear HO138; clear HB; have HO_9 := n0_; have HO138 := n1_; have HO141 := n2_; have HB := n3_; clear n0_ n1_ n2_ n3_; (try clear hb); (try clear hb2); (try clear hk); (try clear hi); (try clear ho0); obtain ⟨Ao53, co53, eo53⟩ := Kd.R_slice HO141.out; subst eo53; obtain ⟨Ao54, co54, eo54⟩ := Kd.R_slice HO_9.out; subst eo54))
                  go_loopg [14] kj9 (fun kq v14 w' => ∃ (x14_3 : Int), v14 = .int .i64 x14_3 ∧ Aside0 (letterboxlaw05_LinesJoined.l2 kq x8_9 x9_9 t139 x14_3 = some r) ∧ Aside0 (kq ≤ kj9) ∧ Aside0 (Kd.R Kd.string 9 w' w.heap.size (fun _ => True) (.slice Ao54 x9_9.length co54) x9_9) ∧ Aside0 (Kd.R k29 29 w' w.heap.size (fun _ => True) (.slice Ao53 t139.length co53) t139) ∧ Aside0 (Below w.heap.size w w'))
                  case atStart => exact ⟨(0), (by first | rfl | (simp; done) | (simp [*]; done)), H', ⟨Nat.le_refl _⟩, ⟨by (with_reducible repeat (first | apply Kd.R_alloc | apply Kd.R_drewN | apply Kd.R_drew)); exact HO_9.out⟩, ⟨by (with_reducible repeat (first | apply Kd.R_alloc | apply Kd.R_drewN | apply Kd.R_drew)); exact HO141.out⟩, ⟨by repeat (first | (with_reducible first | exact HB.out | apply below_alloc | apply pw_below_drewN | apply below_drew1) | exact HB.out)⟩⟩
                  case round =>
                    clear H'
                    try clear c1
                    try clear p1
                    try clear q1
                    try clear hx1
                    try clear c2
                    try clear p2
                    try clear q2
                    try clear hx2
                    try clear c3
                    try clear c4
                    try clear c5
                    try clear p6
                    try clear c7
                    try clear c8
                    try clear c8b0
                    try clear c8b1
                    try clear c9
                    try clear c11
                    try clear c11b0
                    try clear p12
                    try clear q12
                    try clear hx12
                    try clear c13
                    try clear c13b0
                    try clear c14
                    try clear c14b0
                    try clear c15
                    try clear c15b0
                    try clear c16
                    try clear c17
                    try clear c17b0
                    try clear c18
                    try clear c18b0
                    try clear c19
                    try clear c19b0
                    try clear c20
                    try clear c20b0
                    try clear p21
                    try clear q21
                    try clear hx21
                    try clear c22
                    try clear c22b0
                    try clear c22b1
                    try clear p23
                    try clear q23
                    try clear hx23
                    try clear c24
                    try clear c24b0
                    try clear c24b1
                    try clear c25
                    try clear c25b0
                    try clear c26
                    try clear c26b0
                    try clear c26b1
                    try clear c27
                    try clear c27b0
                    try clear c27b1
                    try clear c28
                    try clear c28b0
                    try clear c28b1
                    try clear c28b2
                    try clear c29
                    try clear c29b0
                    try clear c29b1
                    try clear c29b2
                    try clear c31
                    try clear c31b0
                    try clear c31b1
                    try clear c32
                    try clear c33
                    try clear c33b0
                    try clear c33b1
                    try clear c34
                    try clear c36
                    try clear c36b0
                    try clear c37
                    try clear c37b0
                    try clear c38
                    try clear c38b0
                    try clear c38b1
                    try clear c39
                    try clear c39b0
                    try clear c39b1
                    try clear c39b2
                    try clear c40
                    try clear c40b0
                    try clear c40b1
                    try clear c40b2
                    try clear c41
                    try clear c43
                    try clear c43b0
                    try clear c43b1
                    try clear c43b2
                    try clear c44
                    try clear c46
                    try clear c46b0
                    try clear c46b1
                    try clear c46b2
                    try clear c48
                    try clear c48b0
                    try clear c48b1
                    try clear c48b2
                    try clear hx122_0
                    try clear hx123_0
                    try clear hx124_0
                    try clear hx125_0
                    try clear hx129_0
                    try clear p1
                    try clear p12
                    try clear p122
                    try clear p123
                    try clear p124
                    try clear p125
                    try clear p129
                    try clear p2
                    try clear p21
                    try clear p23
                    try clear p6
                    try clear q1
                    try clear q12
                    try clear q122
                    try clear q123
                    try clear q124
                    try clear q125
                    try clear q129
                    try clear q2
                    try clear q21
                    try clear q23
                    obtain ⟨x14_3, rfl, HA, HK3, HO_9, HO_13, HB⟩ := hrel
                    cases gk with
                    | zero => exact absurd HA.out (by simp [letterboxlaw05_LinesJoined.l2])
                    | succ k3 =>
                      have H := HA.out
                      clear HA
                      simp only [letterboxlaw05_LinesJoined.l2] at H
                      by_cases c55 : x14_3 < (t139.length : Int)
                      · rw [if_pos c55] at H
                        have c55b0 : decide (x14_3 < (t139.length : Int)) = true := decide_eq_true c55
                        clear c55
                        by_cases c56 : x8_9.size ≤ 9223372036854775807
                        · rw [if_pos c56] at H
                          have c56b0 := eq_true c56
                          have c56b1 : decide (x8_9.size ≤ 9223372036854775807) = true := decide_eq_true c56
                          try have c56b2 : (9223372036854775807 < x8_9.size) = False := eq_false (Nat.not_lt.2 c56)
                          clear c56
                          obtain ⟨y142, hy142⟩ : ∃ y_ : List Int, y_ = (bytesOf x8_9) := ⟨_, rfl⟩
                          replace H : (if 0 ≤ x14_3 then ((lines_Text.f y142 ((rd_T29 t139 x14_3).f0) ((rd_T29 t139 x14_3).f1) ((rd_T29 t139 x14_3).f2)).bind fun t146 => (if x14_3 < (x9_9.length : Int) then (if t146.toList = (rdOf ByteArray.empty x9_9 x14_3).toList then (letterboxlaw05_LinesJoined.l2 k3 x8_9 x9_9 t139 (wrap64 (x14_3 + 1))) else (some false)) else (none))) else (none)) = some r := by first | (rw [hy142]; with_reducible exact H) | (have H2_ := (Option.bind_some _ _).symm.trans H; rw [hy142]; with_reducible exact H2_) | (have H2_ := (Option.bind_some _ _).symm.trans H; with_reducible exact H2_) | with_reducible exact H | (rw [hy142]; exact H) | exact H
                          have Ny142 := Aside0.mk hy142
                          clear hy142
                          by_cases c57 : 0 ≤ x14_3
                          · rw [if_pos c57] at H
                            have c57b0 : decide (0 ≤ x14_3) = true := decide_eq_true c57
                            clear c57
                            replace H := Option.bind_eq_some_iff.mp H
                            obtain ⟨t146, A580, H⟩ := H
                            replace H : (if x14_3 < (x9_9.length : Int) then (if t146.toList = (rdOf ByteArray.empty x9_9 x14_3).toList then (letterboxlaw05_LinesJoined.l2 k3 x8_9 x9_9 t139 (wrap64 (x14_3 + 1))) else (some false)) else (none)) = some r := H
                            have A58 := Aside0.mk A580
                            clear A580
                            by_cases c59 : x14_3 < (x9_9.length : Int)
                            · rw [if_pos c59] at H
                              have c59b0 : decide (x14_3 < (x9_9.length : Int)) = true := decide_eq_true c59
                              clear c59
                              by_cases c60 : t146.toList = (rdOf ByteArray.empty x9_9 x14_3).toList
                              · rw [if_pos c60] at H
                                have c60b0 : (t146.toList == (rdOf ByteArray.empty x9_9 x14_3).toList) = true := beq_iff_eq.mpr c60
                                have c60b1 : (t146.toList != (rdOf ByteArray.empty x9_9 x14_3).toList) = false := bne_eq_false_iff_eq.mpr c60
                                clear c60
                                have H' := Aside0.mk H
                                clear H
                                try go_wp2
                                have n0_ := Aside0.mk (Kd.R_drew HO_9.out)
                                have n1_ := Aside0.mk (Kd.R_drew HO_13.out)
                                have n2_ := Aside0.mk (below_drew1 HB.out)
                                clear HO_9
                                clear HO_13
                                clear HB
                                have HO_9 := n0_
                                have HO_13 := n1_
                                have HB := n2_
                                clear n0_ n1_ n2_
                                have p145 : 0 ≤ (x14_3 : Int) := of_decide_eq_true (by first | (with_reducible assumption) | assumption)
                                have q145 : x14_3 < (t139.length : Int) := of_decide_eq_true (by first | (with_reducible assumption) | assumption)
                                obtain ⟨ad145, e145, hx145_0, hx145_1, hx145_2⟩ := at_T29 (Kd.R_reads' HO_13.out).2.2 x14_3 p145 q145
                                cases e145
                                replace p145 := eq_true p145
                                replace q145 := eq_true q145
                                have p147 : 0 ≤ (x14_3 : Int) := of_decide_eq_true (by first | (with_reducible assumption) | assumption)
                                have q147 : x14_3 < (x9_9.length : Int) := of_decide_eq_true (by first | (with_reducible assumption) | assumption)
                                obtain ⟨ad147, e147, hx147_0⟩ := Kd.at_string (Kd.R_reads' HO_9.out).2.2 x14_3 p147 q147
                                cases e147
                                replace p147 := eq_true p147
                                replace q147 := eq_true q147
                                refine start_ (n := 12) (S := fun w' => w'.cell? (ad145.add ((x14_3).toNat * 3)) = some (.int .i64 ((rd_T29 t139 x14_3).f0)) ∧ w'.cell? ⟨(ad145.add ((x14_3).toNat * 3)).block, (ad145.add ((x14_3).toNat * 3)).off + 1, none⟩ = some (.int .i64 ((rd_T29 t139 x14_3).f1)) ∧ w'.cell? ⟨(ad145.add ((x14_3).toNat * 3)).block, (ad145.add ((x14_3).toNat * 3)).off + 2, none⟩ = some (.int .i64 ((rd_T29 t139 x14_3).f2)) ∧ w'.cell? (ad147.add (x14_3).toNat) = some (.string (rdOf ByteArray.empty x9_9 x14_3))) (ds := []) #[false, false, false, false, false, false, false, false, false, false, false, false] (by kernel_rfl) rfl rfl ⟨hx145_0, hx145_1, hx145_2, hx147_0⟩ (fun hHeld => ?_); refine with_tabW letterboxlaw05_LinesJoined.tab31 letterboxlaw05_LinesJoined.bits31 (fun HT_ HW_ => ?_)
                                generalize wr.drew = w61 at HO_9 HO_13 HB hx145_0 hx145_1 hx145_2 hx147_0 hHeld ⊢
                                refine pure_ (i := 0) (N := some 121) (v := ?_) (a' := ?_) #[true, false, false, false, false, false, false, false, false, false, false, false] rfl rfl (any_of HT_.out (by kernel_rfl)) (fun _ _ _ h => h) (Or.inl ⟨by rfl, ?_⟩) ?_ ?_
                                rotate_left
                                · intro w'
                                  go_simp
                                  with_reducible rfl
                                rotate_left
                                · simp only [Act.put, List.setIfInBounds_toArray, List.set_cons_zero, List.set_cons_succ, i64_w, i32_w]
                                  rfl
                                refine pure_ (i := 2) (N := some 123) (v := ?_) (a' := ?_) #[true, false, true, false, false, false, false, false, false, false, false, false] rfl rfl (any_of HT_.out (by kernel_rfl)) (fun _ _ _ h => h) (Or.inl ⟨by rfl, ?_⟩) ?_ ?_
                                rotate_left
                                · intro w'
                                  go_simp
                                  with_reducible rfl
                                rotate_left
                                · simp only [Act.put, List.setIfInBounds_toArray, List.set_cons_zero, List.set_cons_succ, i64_w, i32_w]
                                  rfl
                                refine pure_ (i := 3) (N := some 124) (v := ?_) (a' := ?_) #[true, false, true, true, false, false, false, false, false, false, false, false] rfl rfl (any_of HT_.out (by kernel_rfl)) (fun _ _ _ h => h) (Or.inl ⟨by rfl, ?_⟩) ?_ ?_
                                rotate_left
                                · intro w'
                                  go_simp
                                  with_reducible rfl
                                rotate_left
                                · simp only [Act.put, List.setIfInBounds_toArray, List.set_cons_zero, List.set_cons_succ, i64_w, i32_w]
                                  rfl
                                refine pure_ (i := 4) (N := some 125) (v := ?_) (a' := ?_) #[true, false, true, true, true, false, false, false, false, false, false, false] rfl rfl (any_of HT_.out (by kernel_rfl)) (fun _ _ _ h => h) (Or.inl ⟨by rfl, ?_⟩) ?_ ?_
                                rotate_left
                                · intro w'
                                  go_simp
                                  with_reducible rfl
                                rotate_left
                                · simp only [Act.put, List.setIfInBounds_toArray, List.set_cons_zero, List.set_cons_succ, i64_w, i32_w]
                                  rfl
                                refine pure_ (i := 7) (N := some 128) (v := ?_) (a' := ?_) #[true, false, true, true, true, false, false, true, false, false, false, false] rfl rfl (any_of HT_.out (by kernel_rfl)) (fun _ _ _ h => h) (Or.inl ⟨by rfl, ?_⟩) ?_ ?_
                                rotate_left
                                · intro w'
                                  go_simp
                                  with_reducible rfl
                                rotate_left
                                · simp only [Act.put, List.setIfInBounds_toArray, List.set_cons_zero, List.set_cons_succ, i64_w, i32_w]
                                  rfl
                                refine pure_ (i := 8) (N := some 129) (v := ?_) (a' := ?_) #[true, false, true, true, true, false, false, true, true, false, false, false] rfl rfl (any_of HT_.out (by kernel_rfl)) (fun _ _ _ h => h) (Or.inl ⟨by rfl, ?_⟩) ?_ ?_
                                rotate_left
                                · intro w'
                                  go_simp
                                  with_reducible rfl
                                rotate_left
                                · simp only [Act.put, List.setIfInBounds_toArray, List.set_cons_zero, List.set_cons_succ, i64_w, i32_w]
                                  rfl
                                refine pure_ (i := 9) (N := some 130) (v := ?_) (a' := ?_) #[true, false, true, true, true, false, false, true, true, true, false, false] rfl rfl (any_of HT_.out (by kernel_rfl)) (fun _ _ _ h => h) (Or.inl ⟨by rfl, ?_⟩) ?_ ?_
                                rotate_left
                                · intro w'
                                  go_simp
                                  with_reducible rfl
                                rotate_left
                                · simp only [Act.put, List.setIfInBounds_toArray, List.set_cons_zero, List.set_cons_succ, i64_w, i32_w]
                                  rfl
                                refine take_ (i := 5) (N := some 126) (v := ?_) (a' := ?_) #[true, false, true, true, true, true, false, true, true, true, false, false] rfl rfl (take_ofW HT_.out HW_.out (by kernel_rfl)) (fun _ _ _ h => h) (Or.inl ⟨by rfl, ?_⟩) hHeld ?_ ?_
                                rotate_left
                                · rintro w' ⟨s0, s1, s2, s3⟩
                                  go_simp
                                  with_reducible rfl
                                rotate_left
                                · simp only [Act.put, List.setIfInBounds_toArray, List.set_cons_zero, List.set_cons_succ, i64_w, i32_w]
                                  rfl
                                refine take_ (i := 10) (N := some 131) (v := ?_) (a' := ?_) #[true, false, true, true, true, true, false, true, true, true, true, false] rfl rfl (take_ofW HT_.out HW_.out (by kernel_rfl)) (fun _ _ _ h => h) (Or.inl ⟨by rfl, ?_⟩) hHeld ?_ ?_
                                rotate_left
                                · rintro w' ⟨s0, s1, s2, s3⟩
                                  go_simp
                                  with_reducible rfl
                                rotate_left
                                · simp only [Act.put, List.setIfInBounds_toArray, List.set_cons_zero, List.set_cons_succ, i64_w, i32_w]
                                  rfl
                                refine one_ (i := 1) (N := some 122) #[true, true, true, true, true, true, false, true, true, true, true, false] rfl rfl (one_of HT_.out (by kernel_rfl)) (by decide) (fun K hK => ?_)
                                refine Conv.bytes_step _ 5 (by rfl) (N := 122) rfl 9 22 _ rfl x8_9 rfl Try.underlying9 Try.underlying22 Try.underlying5 (of_decide_eq_true (by first | (with_reducible assumption) | assumption)) (ok := (fun k_ => some k_ ≠ (.slice (some ad147) x9_9.length co54 : Value).ownBlock ∧ some k_ ≠ (.slice (some ad145) t139.length co53 : Value).ownBlock)) ((show ∀ k_, w61.heap.size ≤ k_ → (fun k_ => some k_ ≠ (.slice (some ad147) x9_9.length co54 : Value).ownBlock ∧ some k_ ≠ (.slice (some ad145) t139.length co53 : Value).ownBlock) k_ from fun k_ hk => ⟨Kd.fresh' (Kd.R_lt (by (with_reducible repeat (first | apply Kd.R_alloc | apply Kd.R_drewN | apply Kd.R_drew)); exact HO_9.out)) k_ hk, Kd.fresh' (Kd.R_lt (by (with_reducible repeat (first | apply Kd.R_alloc | apply Kd.R_drewN | apply Kd.R_drew)); exact HO_13.out)) k_ hk⟩) _ (Nat.le_refl _)) (Below.refl _ _) (Nat.le_refl _) ?_
                                intro v143 w62 ho63 hb hg_ hnew_
                                have HS0_ := (hb.cell (World.block_lt_of_cell? _ _ (hHeld.1))).trans (hHeld.1)
                                have HS1_ := (hb.cell (World.block_lt_of_cell? _ _ (hHeld.2.1))).trans (hHeld.2.1)
                                have HS2_ := (hb.cell (World.block_lt_of_cell? _ _ (hHeld.2.2.1))).trans (hHeld.2.2.1)
                                have HS3_ := (hb.cell (World.block_lt_of_cell? _ _ (hHeld.2.2.2))).trans (hHeld.2.2.2)
                                clear hg_ hnew_
                                (first | rw [← Ny142.out] at ho63 | (simp only [Int.reduceToNat] at ho63; rw [← Ny142.out] at ho63))
                                have n0_ := Aside0.mk (Kd.R_below (by (with_reducible repeat (first | apply Kd.R_alloc | apply Kd.R_drewN | apply Kd.R_drew)); exact HO_9.out) hb)
                                have n1_ := Aside0.mk (Kd.R_below (by (with_reducible repeat (first | apply Kd.R_alloc | apply Kd.R_drewN | apply Kd.R_drew)); exact HO_13.out) hb)
                                have n2_ := Aside0.mk (Kd.V_lower ho63 (below_size (by repeat (first | (with_reducible first | exact HB.out | apply below_alloc | apply pw_below_drewN | apply below_drew1) | exact HB.out))))
                                have n3_ := Aside0.mk (below_step (by repeat (first | (with_reducible first | exact HB.out | apply below_alloc | apply pw_below_drewN | apply below_drew1) | exact HB.out)) hb)
                                clear HO_9
                                clear HO_13
                                clear HB
                                have HO_9 := n0_
                                have HO_13 := n1_
                                have HO144 := n2_
                                have HB := n3_
                                clear n0_ n1_ n2_ n3_
                                clear hb ho63
                                obtain ⟨Ao64, co64, eo64⟩ := Kd.V_slice HO144.out
                                (first | subst eo64 | (injection eo64 with f1_ f2_ f3_; have f4_ := f1_.symm; have f5_ := f3_.symm; clear f1_ f2_ f3_; subst f4_; subst f5_))
                                refine hK.out _ _ ⟨HS0_, HS1_, HS2_, HS3_⟩ (fun hHeld => ?_)
                                clear hK K
                                refine norm_ (a' := ?_) ?_ ?_
                                rotate_left
                                · show Act.put _ (some 122) _ = _
                                  simp only [Act.put, List.setIfInBounds_toArray, List.set_cons_zero, List.set_cons_succ, i64_w, i32_w]
                                  rfl
                                refine one_ (i := 6) (N := some 127) #[true, true, true, true, true, true, true, true, true, true, true, false] rfl rfl (one_of HT_.out (by kernel_rfl)) (by decide) (fun K hK => ?_)
                                refine goes_ Try.func9 (by kernel_rfl) rfl #[.slice Ao64 y142.length co64, .agg #[.int .i64 ((rd_T29 t139 x14_3).f0), .int .i64 ((rd_T29 t139 x14_3).f1), .int .i64 ((rd_T29 t139 x14_3).f2)]] (by rfl) rfl rfl (by (try simp only [List.map_toArray, List.map_cons, List.map_nil]); first | done | rfl | (simp only [List.length_drop, List.length_take]; rfl)) ?_
                                with_reducible refine (lines_Text.calls _ _ y142 ((rd_T29 t139 x14_3).f0) ((rd_T29 t139 x14_3).f1) ((rd_T29 t139 x14_3).f2) t146 _ ?side1 ?side2 A58.out).mono ?_
                                (case side1 => repeat (first | exact (Kd.V_reads' HO144.out).2.2 | (with_reducible refine Kd.C_alloc ?_ _) | (with_reducible refine Kd.C_drewN ?_ _) | (with_reducible refine Kd.C_drew ?_)))
                                (case side2 => exact (Kd.V_reads' HO144.out).2.1)
                                rintro e w65 ⟨rfl, hb⟩
                                have HS0_ := (hb.cell (World.block_lt_of_cell? _ _ (hHeld.1))).trans (hHeld.1)
                                have HS1_ := (hb.cell (World.block_lt_of_cell? _ _ (hHeld.2.1))).trans (hHeld.2.1)
                                have HS2_ := (hb.cell (World.block_lt_of_cell? _ _ (hHeld.2.2.1))).trans (hHeld.2.2.1)
                                have HS3_ := (hb.cell (World.block_lt_of_cell? _ _ (hHeld.2.2.2))).trans (hHeld.2.2.2)
                                refine ⟨_, rfl, ?_⟩
                                have n0_ := Aside0.mk (Kd.R_below (by (with_reducible repeat (first | apply Kd.R_alloc | apply Kd.R_drewN | apply Kd.R_drew)); exact HO_9.out) hb)
                                have n1_ := Aside0.mk (Kd.R_below (by (with_reducible repeat (first | apply Kd.R_alloc | apply Kd.R_drewN | apply Kd.R_drew)); exact HO_13.out) hb)
                                have n2_ := Aside0.mk (Kd.V_below (by (with_reducible repeat (first | apply Kd.V_alloc | apply Kd.V_drewN | apply Kd.V_drew)); exact HO144.out) hb)
                                have n3_ := Aside0.mk (below_step (by repeat (first | (with_reducible first | exact HB.out | apply below_alloc | apply pw_below_drewN | apply below_drew1) | exact HB.out)) hb)
                                clear HO_9
                                clear HO_13
                                clear HO144
                                clear HB
                                have HO_9 := n0_
                                have HO_13 := n1_
                                have HO144 := n2_
                                have HB := n3_
                                clear n0_ n1_ n2_ n3_
                                (try clear hb)
                                (try clear hb2)
                                (try clear hk)
                                (try clear hi)
                                refine hK.out _ _ ⟨HS0_, HS1_, HS2_, HS3_⟩ (fun hHeld => ?_)
                                clear hK K
                                refine norm_ (a' := ?_) ?_ ?_
                                rotate_left
                                · show Act.put _ (some 127) _ = _
                                  simp only [Act.put, List.setIfInBounds_toArray, List.set_cons_zero, List.set_cons_succ, i64_w, i32_w]
                                  rfl
                                refine pure_ (i := 11) (N := some 132) (v := ?_) (a' := ?_) #[true, true, true, true, true, true, true, true, true, true, true, true] rfl rfl (any_of HT_.out (by kernel_rfl)) (fun _ _ _ h => h) (Or.inl ⟨by rfl, ?_⟩) ?_ ?_
                                rotate_left
                                · intro w'
                                  go_simp
                                  with_reducible rfl
                                rotate_left
                                · simp only [Act.put, List.setIfInBounds_toArray, List.set_cons_zero, List.set_cons_succ, i64_w, i32_w]
                                  rfl
                                refine done_ (done_of HT_.out (by kernel_rfl)) ?_
                                try go_wp2
                                go_roundg k3
                                case measure => have := HJ5.out; have := HJ9.out; have := HK3.out; omega
                                case rel => exact ⟨(wrap64 (x14_3 + 1)), (by first | rfl | (simp; done) | (simp [*]; done)), H', ⟨by have := HJ5.out; have := HJ9.out; have := HK3.out; omega⟩, ⟨by (with_reducible repeat (first | apply Kd.R_alloc | apply Kd.R_drewN | apply Kd.R_drew)); exact HO_9.out⟩, ⟨by (with_reducible repeat (first | apply Kd.R_alloc | apply Kd.R_drewN | apply Kd.R_drew)); exact HO_13.out⟩, ⟨by repeat (first | (with_reducible first | exact HB.out | apply below_alloc | apply pw_below_drewN | apply below_drew1) | exact HB.out)⟩⟩
                              · rw [if_neg c60] at H
                                have c60b0 : (t146.toList == (rdOf ByteArray.empty x9_9 x14_3).toList) = false := beq_eq_false_iff_ne.mpr c60
                                have c60b1 : (t146.toList != (rdOf ByteArray.empty x9_9 x14_3).toList) = true := bne_iff_ne.mpr c60
                                obtain rfl := Option.some.inj H
                                try go_wp2
                                have n0_ := Aside0.mk (Kd.R_drew HO_9.out)
                                have n1_ := Aside0.mk (Kd.R_drew HO_13.out)
                                have n2_ := Aside0.mk (below_drew1 HB.out)
                                clear HO_9
                                clear HO_13
                                clear HB
                                have HO_9 := n0_
                                have HO_13 := n1_
                                have HB := n2_
                                clear n0_ n1_ n2_
                                have p145 : 0 ≤ (x14_3 : Int) := of_decide_eq_true (by first | (with_reducible assumption) | assumption)
                                have q145 : x14_3 < (t139.length : Int) := of_decide_eq_true (by first | (with_reducible assumption) | assumption)
                                obtain ⟨ad145, e145, hx145_0, hx145_1, hx145_2⟩ := at_T29 (Kd.R_reads' HO_13.out).2.2 x14_3 p145 q145
                                cases e145
                                replace p145 := eq_true p145
                                replace q145 := eq_true q145
                                have p147 : 0 ≤ (x14_3 : Int) := of_decide_eq_true (by first | (with_reducible assumption) | assumption)
                                have q147 : x14_3 < (x9_9.length : Int) := of_decide_eq_true (by first | (with_reducible assumption) | assumption)
                                obtain ⟨ad147, e147, hx147_0⟩ := Kd.at_string (Kd.R_reads' HO_9.out).2.2 x14_3 p147 q147
                                cases e147
                                replace p147 := eq_true p147
                                replace q147 := eq_true q147
                                refine start_ (n := 12) (S := fun w' => w'.cell? (ad145.add ((x14_3).toNat * 3)) = some (.int .i64 ((rd_T29 t139 x14_3).f0)) ∧ w'.cell? ⟨(ad145.add ((x14_3).toNat * 3)).block, (ad145.add ((x14_3).toNat * 3)).off + 1, none⟩ = some (.int .i64 ((rd_T29 t139 x14_3).f1)) ∧ w'.cell? ⟨(ad145.add ((x14_3).toNat * 3)).block, (ad145.add ((x14_3).toNat * 3)).off + 2, none⟩ = some (.int .i64 ((rd_T29 t139 x14_3).f2)) ∧ w'.cell? (ad147.add (x14_3).toNat) = some (.string (rdOf ByteArray.empty x9_9 x14_3))) (ds := []) #[false, false, false, false, false, false, false, false, false, false, false, false] (by kernel_rfl) rfl rfl ⟨hx145_0, hx145_1, hx145_2, hx147_0⟩ (fun hHeld => ?_); refine with_tabW letterboxlaw05_LinesJoined.tab31 letterboxlaw05_LinesJoined.bits31 (fun HT_ HW_ => ?_)
                                generalize wr.drew = w66 at HO_9 HO_13 HB hx145_0 hx145_1 hx145_2 hx147_0 hHeld ⊢
                                refine pure_ (i := 0) (N := some 121) (v := ?_) (a' := ?_) #[true, false, false, false, false, false, false, false, false, false, false, false] rfl rfl (any_of HT_.out (by kernel_rfl)) (fun _ _ _ h => h) (Or.inl ⟨by rfl, ?_⟩) ?_ ?_
                                rotate_left
                                · intro w'
                                  go_simp
                                  with_reducible rfl
                                rotate_left
                                · simp only [Act.put, List.setIfInBounds_toArray, List.set_cons_zero, List.set_cons_succ, i64_w, i32_w]
                                  rfl
                                refine pure_ (i := 2) (N := some 123) (v := ?_) (a' := ?_) #[true, false, true, false, false, false, false, false, false, false, false, false] rfl rfl (any_of HT_.out (by kernel_rfl)) (fun _ _ _ h => h) (Or.inl ⟨by rfl, ?_⟩) ?_ ?_
                                rotate_left
                                · intro w'
                                  go_simp
                                  with_reducible rfl
                                rotate_left
                                · simp only [Act.put, List.setIfInBounds_toArray, List.set_cons_zero, List.set_cons_succ, i64_w, i32_w]
                                  rfl
                                refine pure_ (i := 3) (N := some 124) (v := ?_) (a' := ?_) #[true, false, true, true, false, false, false, false, false, false, false, false] rfl rfl (any_of HT_.out (by kernel_rfl)) (fun _ _ _ h => h) (Or.inl ⟨by rfl, ?_⟩) ?_ ?_
                                rotate_left
                                · intro w'
                                  go_simp
                                  with_reducible rfl
                                rotate_left
                                · simp only [Act.put, List.setIfInBounds_toArray, List.set_cons_zero, List.set_cons_succ, i64_w, i32_w]
                                  rfl
                                refine pure_ (i := 4) (N := some 125) (v := ?_) (a' := ?_) #[true, false, true, true, true, false, false, false, false, false, false, false] rfl rfl (any_of HT_.out (by kernel_rfl)) (fun _ _ _ h => h) (Or.inl ⟨by rfl, ?_⟩) ?_ ?_
                                rotate_left
                                · intro w'
                                  go_simp
                                  with_reducible rfl
                                rotate_left
                                · simp only [Act.put, List.setIfInBounds_toArray, List.set_cons_zero, List.set_cons_succ, i64_w, i32_w]
                                  rfl
                                refine pure_ (i := 7) (N := some 128) (v := ?_) (a' := ?_) #[true, false, true, true, true, false, false, true, false, false, false, false] rfl rfl (any_of HT_.out (by kernel_rfl)) (fun _ _ _ h => h) (Or.inl ⟨by rfl, ?_⟩) ?_ ?_
                                rotate_left
                                · intro w'
                                  go_simp
                                  with_reducible rfl
                                rotate_left
                                · simp only [Act.put, List.setIfInBounds_toArray, List.set_cons_zero, List.set_cons_succ, i64_w, i32_w]
                                  rfl
                                refine pure_ (i := 8) (N := some 129) (v := ?_) (a' := ?_) #[true, false, true, true, true, false, false, true, true, false, false, false] rfl rfl (any_of HT_.out (by kernel_rfl)) (fun _ _ _ h => h) (Or.inl ⟨by rfl, ?_⟩) ?_ ?_
                                rotate_left
                                · intro w'
                                  go_simp
                                  with_reducible rfl
                                rotate_left
                                · simp only [Act.put, List.setIfInBounds_toArray, List.set_cons_zero, List.set_cons_succ, i64_w, i32_w]
                                  rfl
                                refine pure_ (i := 9) (N := some 130) (v := ?_) (a' := ?_) #[true, false, true, true, true, false, false, true, true, true, false, false] rfl rfl (any_of HT_.out (by kernel_rfl)) (fun _ _ _ h => h) (Or.inl ⟨by rfl, ?_⟩) ?_ ?_
                                rotate_left
                                · intro w'
                                  go_simp
                                  with_reducible rfl
                                rotate_left
                                · simp only [Act.put, List.setIfInBounds_toArray, List.set_cons_zero, List.set_cons_succ, i64_w, i32_w]
                                  rfl
                                refine take_ (i := 5) (N := some 126) (v := ?_) (a' := ?_) #[true, false, true, true, true, true, false, true, true, true, false, false] rfl rfl (take_ofW HT_.out HW_.out (by kernel_rfl)) (fun _ _ _ h => h) (Or.inl ⟨by rfl, ?_⟩) hHeld ?_ ?_
                                rotate_left
                                · rintro w' ⟨s0, s1, s2, s3⟩
                                  go_simp
                                  with_reducible rfl
                                rotate_left
                                · simp only [Act.put, List.setIfInBounds_toArray, List.set_cons_zero, List.set_cons_succ, i64_w, i32_w]
                                  rfl
                                refine take_ (i := 10) (N := some 131) (v := ?_) (a' := ?_) #[true, false, true, true, true, true, false, true, true, true, true, false] rfl rfl (take_ofW HT_.out HW_.out (by kernel_rfl)) (fun _ _ _ h => h) (Or.inl ⟨by rfl, ?_⟩) hHeld ?_ ?_
                                rotate_left
                                · rintro w' ⟨s0, s1, s2, s3⟩
                                  go_simp
                                  with_reducible rfl
                                rotate_left
                                · simp only [Act.put, List.setIfInBounds_toArray, List.set_cons_zero, List.set_cons_succ, i64_w, i32_w]
                                  rfl
                                refine one_ (i := 1) (N := some 122) #[true, true, true, true, true, true, false, true, true, true, true, false] rfl rfl (one_of HT_.out (by kernel_rfl)) (by decide) (fun K hK => ?_)
                                refine Conv.bytes_step _ 5 (by rfl) (N := 122) rfl 9 22 _ rfl x8_9 rfl Try.underlying9 Try.underlying22 Try.underlying5 (of_decide_eq_true (by first | (with_reducible assumption) | assumption)) (ok := (fun k_ => some k_ ≠ (.slice (some ad147) x9_9.length co54 : Value).ownBlock ∧ some k_ ≠ (.slice (some ad145) t139.length co53 : Value).ownBlock)) ((show ∀ k_, w66.heap.size ≤ k_ → (fun k_ => some k_ ≠ (.slice (some ad147) x9_9.length co54 : Value).ownBlock ∧ some k_ ≠ (.slice (some ad145) t139.length co53 : Value).ownBlock) k_ from fun k_ hk => ⟨Kd.fresh' (Kd.R_lt (by (with_reducible repeat (first | apply Kd.R_alloc | apply Kd.R_drewN | apply Kd.R_drew)); exact HO_9.out)) k_ hk, Kd.fresh' (Kd.R_lt (by (with_reducible repeat (first | apply Kd.R_alloc | apply Kd.R_drewN | apply Kd.R_drew)); exact HO_13.out)) k_ hk⟩) _ (Nat.le_refl _)) (Below.refl _ _) (Nat.le_refl _) ?_
                                intro v143 w67 ho68 hb hg_ hnew_
                                have HS0_ := (hb.cell (World.block_lt_of_cell? _ _ (hHeld.1))).trans (hHeld.1)
                                have HS1_ := (hb.cell (World.block_lt_of_cell? _ _ (hHeld.2.1))).trans (hHeld.2.1)
                                have HS2_ := (hb.cell (World.block_lt_of_cell? _ _ (hHeld.2.2.1))).trans (hHeld.2.2.1)
                                have HS3_ := (hb.cell (World.block_lt_of_cell? _ _ (hHeld.2.2.2))).trans (hHeld.2.2.2)
                                clear hg_ hnew_
                                (first | rw [← Ny142.out] at ho68 | (simp only [Int.reduceToNat] at ho68; rw [← Ny142.out] at ho68))
                                have n0_ := Aside0.mk (Kd.R_below (by (with_reducible repeat (first | apply Kd.R_alloc | apply Kd.R_drewN | apply Kd.R_drew)); exact HO_9.out) hb)
                                have n1_ := Aside0.mk (Kd.R_below (by (with_reducible repeat (first | apply Kd.R_alloc | apply Kd.R_drewN | apply Kd.R_drew)); exact HO_13.out) hb)
                                have n2_ := Aside0.mk (Kd.V_lower ho68 (below_size (by repeat (first | (with_reducible first | exact HB.out | apply below_alloc | apply pw_below_drewN | apply below_drew1) | exact HB.out))))
                                have n3_ := Aside0.mk (below_step (by repeat (first | (with_reducible first | exact HB.out | apply below_alloc | apply pw_below_drewN | apply below_drew1) | exact HB.out)) hb)
                                clear HO_9
                                clear HO_13
                                clear HB
                                have HO_9 := n0_
                                have HO_13 := n1_
                                have HO144 := n2_
                                have HB := n3_
                                clear n0_ n1_ n2_ n3_
                                clear hb ho68
                                obtain ⟨Ao69, co69, eo69⟩ := Kd.V_slice HO144.out
                                (first | subst eo69 | (injection eo69 with f1_ f2_ f3_; have f4_ := f1_.symm; have f5_ := f3_.symm; clear f1_ f2_ f3_; subst f4_; subst f5_))
                                refine hK.out _ _ ⟨HS0_, HS1_, HS2_, HS3_⟩ (fun hHeld => ?_)
                                clear hK K
                                refine norm_ (a' := ?_) ?_ ?_
                                rotate_left
                                · show Act.put _ (some 122) _ = _
                                  simp only [Act.put, List.setIfInBounds_toArray, List.set_cons_zero, List.set_cons_succ, i64_w, i32_w]
                                  rfl
                                refine one_ (i := 6) (N := some 127) #[true, true, true, true, true, true, true, true, true, true, true, false] rfl rfl (one_of HT_.out (by kernel_rfl)) (by decide) (fun K hK => ?_)
                                refine goes_ Try.func9 (by kernel_rfl) rfl #[.slice Ao69 y142.length co69, .agg #[.int .i64 ((rd_T29 t139 x14_3).f0), .int .i64 ((rd_T29 t139 x14_3).f1), .int .i64 ((rd_T29 t139 x14_3).f2)]] (by rfl) rfl rfl (by (try simp only [List.map_toArray, List.map_cons, List.map_nil]); first | done | rfl | (simp only [List.length_drop, List.length_take]; rfl)) ?_
                                with_reducible refine (lines_Text.calls _ _ y142 ((rd_T29 t139 x14_3).f0) ((rd_T29 t139 x14_3).f1) ((rd_T29 t139 x14_3).f2) t146 _ ?side1 ?side2 A58.out).mono ?_
                                (case side1 => repeat (first | exact (Kd.V_reads' HO144.out).2.2 | (with_reducible refine Kd.C_alloc ?_ _) | (with_reducible refine Kd.C_drewN ?_ _) | (with_reducible refine Kd.C_drew ?_)))
                                (case side2 => exact (Kd.V_reads' HO144.out).2.1)
                                rintro e w70 ⟨rfl, hb⟩
                                have HS0_ := (hb.cell (World.block_lt_of_cell? _ _ (hHeld.1))).trans (hHeld.1)
                                have HS1_ := (hb.cell (World.block_lt_of_cell? _ _ (hHeld.2.1))).trans (hHeld.2.1)
                                have HS2_ := (hb.cell (World.block_lt_of_cell? _ _ (hHeld.2.2.1))).trans (hHeld.2.2.1)
                                have HS3_ := (hb.cell (World.block_lt_of_cell? _ _ (hHeld.2.2.2))).trans (hHeld.2.2.2)
                                refine ⟨_, rfl, ?_⟩
                                have n0_ := Aside0.mk (Kd.R_below (by (with_reducible repeat (first | apply Kd.R_alloc | apply Kd.R_drewN | apply Kd.R_drew)); exact HO_9.out) hb)
                                have n1_ := Aside0.mk (Kd.R_below (by (with_reducible repeat (first | apply Kd.R_alloc | apply Kd.R_drewN | apply Kd.R_drew)); exact HO_13.out) hb)
                                have n2_ := Aside0.mk (Kd.V_below (by (with_reducible repeat (first | apply Kd.V_alloc | apply Kd.V_drewN | apply Kd.V_drew)); exact HO144.out) hb)
                                have n3_ := Aside0.mk (below_step (by repeat (first | (with_reducible first | exact HB.out | apply below_alloc | apply pw_below_drewN | apply below_drew1) | exact HB.out)) hb)
                                clear HO_9
                                clear HO_13
                                clear HO144
                                clear HB
                                have HO_9 := n0_
                                have HO_13 := n1_
                                have HO144 := n2_
                                have HB := n3_
                                clear n0_ n1_ n2_ n3_
                                (try clear hb)
                                (try clear hb2)
                                (try clear hk)
                                (try clear hi)
                                refine hK.out _ _ ⟨HS0_, HS1_, HS2_, HS3_⟩ (fun hHeld => ?_)
                                clear hK K
                                refine norm_ (a' := ?_) ?_ ?_
                                rotate_left
                                · show Act.put _ (some 127) _ = _
                                  simp only [Act.put, List.setIfInBounds_toArray, List.set_cons_zero, List.set_cons_succ, i64_w, i32_w]
                                  rfl
                                refine pure_ (i := 11) (N := some 132) (v := ?_) (a' := ?_) #[true, true, true, true, true, true, true, true, true, true, true, true] rfl rfl (any_of HT_.out (by kernel_rfl)) (fun _ _ _ h => h) (Or.inl ⟨by rfl, ?_⟩) ?_ ?_
                                rotate_left
                                · intro w'
                                  go_simp
                                  with_reducible rfl
                                rotate_left
                                · simp only [Act.put, List.setIfInBounds_toArray, List.set_cons_zero, List.set_cons_succ, i64_w, i32_w]
                                  rfl
                                refine done_ (done_of HT_.out (by kernel_rfl)) ?_
                                try go_wp2
                                go_ret
                                exact ⟨by first | rfl | (simp [errW_none, errW_some] <;> rfl) | (simp [*, errW_none, errW_some] <;> rfl), by repeat (first | (with_reducible first | exact HB.out | apply below_alloc | apply pw_below_drewN | apply below_drew1) | exact HB.out)⟩
                            · rw [if_neg c59] at H
                              exact absurd H (by simp)
                          · rw [if_neg c57] at H
                            exact absurd H (by simp)
                        · rw [if_neg c56] at H
                          exact absurd H (by simp)
                      · rw [if_neg c55] at H
                        have c55b0 : decide (x14_3 < (t139.length : Int)) = false := decide_eq_false c55
                        clear c55
                        obtain rfl := Option.some.inj H
                        go_wp2
                        go_ret
                        exact ⟨by first | rfl | (simp [errW_none, errW_some] <;> rfl) | (simp [*, errW_none, errW_some] <;> rfl), by repeat (first | (with_reducible first | exact HB.out | apply below_alloc | apply pw_below_drewN | apply below_drew1) | exact HB.out)⟩
                · rw [if_neg c48] at H
                  have c48b0 : ((t139.length : Int) == (x9_9.length : Int)) = false := beq_eq_false_iff_ne.mpr c48
                  have c48b1 : ((t139.length : Int) != (x9_9.length : Int)) = true := bne_iff_ne.mpr c48
                  have c48b2 : (t139.length == x9_9.length) = false := by first | simpa using c48 | (simp at c48 ⊢; omega)
                  obtain rfl := Option.some.inj H
                  go_wp2_with (first | ((with_reducible refine gate_dst (N := 105) rfl ?_); (try (refine gate_guard (by rfl) ?_; dsimp only)); refine Conv.bytes _ 5 rfl (N := 105) rfl 9 22 _ rfl x8_9 rfl Try.underlying9 Try.underlying22 Try.underlying5 (of_decide_eq_true (by first | (with_reducible assumption) | assumption)) (ok := (fun k_ => some k_ ≠ (u9 : Value).ownBlock)) ((show ∀ k_, wc.heap.size ≤ k_ → (fun k_ => some k_ ≠ (u9 : Value).ownBlock) k_ from fun k_ hk => Kd.fresh' (Kd.R_lt (by (with_reducible repeat (first | apply Kd.R_alloc | apply Kd.R_drewN | apply Kd.R_drew)); exact HO_9.out)) k_ hk) _ (Nat.le_refl _)) (Below.refl _ _) (Nat.le_refl _) ?_; intro v137 w71 ho72 hb hg_ hnew_; clear hg_ hnew_; (first | rw [← Ny136.out] at ho72 | (simp only [Int.reduceToNat] at ho72; rw [← Ny136.out] at ho72)); have n0_ := Aside0.mk (Kd.R_below (by (with_reducible repeat (first | apply Kd.R_alloc | apply Kd.R_drewN | apply Kd.R_drew)); exact HO_9.out) hb); have n1_ := Aside0.mk (Kd.V_lower ho72 (below_size (by repeat (first | (with_reducible first | exact HB.out | apply below_alloc | apply pw_below_drewN | apply below_drew1) | exact HB.out)))); have n2_ := Aside0.mk (below_step (by repeat (first | (with_reducible first | exact HB.out | apply below_alloc | apply pw_below_drewN | apply below_drew1) | exact HB.out)) hb); clear HO_9; clear HB; have HO_9 := n0_; have HO138 := n1_; have HB := n2_; clear n0_ n1_ n2_; clear hb ho72; obtain ⟨Ao73, co73, eo73⟩ := Kd.V_slice HO138.out; subst eo73) | ((with_reducible refine gate_callee (f := 8) rfl ?_); refine goesL_ (some 109) rfl rfl Try.func8 (by kernel_rfl) rfl #[.slice Ao73 y136.length co73, .agg #[.int .i64 0, .int .i64 (x8_9.size : Int)]] rfl (by (try simp only [List.map_toArray, List.map_cons, List.map_nil]); first | done | rfl | (simp only [List.length_drop, List.length_take]; rfl)) ?_; (with_reducible refine (lines_Of.calls _ _ y136 0 (x8_9.size : Int) t139 _ ?side1 ?side2 A47.out).mono ?_); (case side1 => repeat (first | exact (Kd.V_reads' HO138.out).2.2 | (with_reducible refine Kd.C_alloc ?_ _) | (with_reducible refine Kd.C_drewN ?_ _) | (with_reducible refine Kd.C_drew ?_))); (case side2 => exact (Kd.V_reads' HO138.out).2.1); rintro e w74 ⟨v140, rfl, ho0, hb⟩; refine ⟨_, rfl, ?_⟩; have n0_ := Aside0.mk (Kd.R_below (by (with_reducible repeat (first | apply Kd.R_alloc | apply Kd.R_drewN | apply Kd.R_drew)); exact HO_9.out) hb); have n1_ := Aside0.mk (Kd.V_elder' (by (with_reducible repeat (first | apply Kd.V_alloc | apply Kd.V_drewN | apply Kd.V_drew)); exact HO138.out) (Kd.R_base ho0) hb); have n2_ := Aside0.mk (Kd.R_lower ho0 (below_size (by repeat (first | (with_reducible first | exact HB.out | apply below_alloc | apply pw_below_drewN | apply below_drew1) | exact HB.out)))); have n3_ := Aside0.mk (below_step (by repeat (first | (with_reducible first | exact HB.out | apply below_alloc | apply pw_below_drewN | apply below_drew1) | exact HB.out)) hb); clear HO_9; clear HO138; clear HB; have HO_9 := n0_; have HO138 := n1_; have HO141 := n2_; have HB := n3_; clear n0_ n1_ n2_ n3_; (try clear hb); (try clear hb2); (try clear hk); (try clear hi); (try clear ho0); obtain ⟨Ao75, co75, eo75⟩ := Kd.R_slice HO141.out; subst eo75; obtain ⟨Ao76, co76, eo76⟩ := Kd.R_slice HO_9.out; subst eo76))
                  go_ret
                  exact ⟨by first | rfl | (simp [errW_none, errW_some] <;> rfl) | (simp [*, errW_none, errW_some] <;> rfl), by repeat (first | (with_reducible first | exact HB.out | apply below_alloc | apply pw_below_drewN | apply below_drew1) | exact HB.out)⟩
              · rw [if_neg c46] at H
                exact absurd H (by simp)
  · replace c5 := Bool.eq_false_iff.mpr c5
    subst c5
    have H1 : (some false) = some r := by rw [if_neg (show ¬ (false = true) by decide)] at H; exact H
    clear H
    have H := H1
    clear H1
    obtain rfl := Option.some.inj H
    go_enter Try.func4, Try.ntmps4
    go_wp2_with (first | ((with_reducible refine gate_callee (f := 7) rfl ?_); refine goesL_ (some 15) rfl rfl Try.func7 (by kernel_rfl) rfl #[] rfl (by (try simp only [List.map_toArray, List.map_cons, List.map_nil]); first | done | rfl | (simp only [List.length_drop, List.length_take]; rfl)) ?_; (with_reducible refine (letterboxlaw05_awake.calls  false _ A4.out).mono ?_); rintro e w77 ⟨rfl, hb⟩; refine ⟨_, rfl, ?_⟩; have n0_ := Aside0.mk (below_step (by repeat (first | (with_reducible first | exact HB.out | apply below_alloc | apply pw_below_drewN | apply below_drew1) | exact HB.out)) hb); clear HB; have HB := n0_; clear n0_; (try clear hb); (try clear hb2); (try clear hk); (try clear hi)))
    go_ret
    exact ⟨by first | rfl | (simp [errW_none, errW_some] <;> rfl) | (simp [*, errW_none, errW_some] <;> rfl), by repeat (first | (with_reducible first | exact HB.out | apply below_alloc | apply pw_below_drewN | apply below_drew1) | exact HB.out)⟩

/-- THE ONE PURE STATEMENT of letterboxlaw05_LinesJoined: yours. -/
def letterboxlaw05_LinesJoined.Pure : Prop := ∀ (l0 : List ByteArray) (l1 : List Int) (a2 : Bool), (l0.length ≤ maxLen ∧ l0.length * 16 ≤ 140737488351232 ∧ ∀ x0_ ∈ l0, x0_.size ≤ 140737488351232) → l1.length ≤ maxLen → l1.length * 1 ≤ 140737488351232 → (∀ x ∈ l1, (Lit.int .u8 x).wf = true) → ∃ k, letterboxlaw05_LinesJoined.f k l0 l1 a2 = some true
theorem letterboxlaw05_LinesJoined.walk (P : letterboxlaw05_LinesJoined.Pure) (a0 : Option Addr) (cap0 : Nat) (l0 : List ByteArray) (a1 : Option Addr) (len1 cap1 : Nat) (z1 : List Int) (a2 : Bool) (w : World) (hC0 : Kd.C Kd.string w a0 l0.length l0) (hc0 : l0.length ≤ cap0) (hg0 : (l0.length ≤ maxLen ∧ l0.length * 16 ≤ 140737488351232 ∧ ∀ x0_ ∈ l0, x0_.size ≤ 140737488351232)) (w1 : (a1 = none ∧ len1 = 0 ∧ cap1 = 0 ∧ z1 = []) ∨ ∃ x, a1 = some x ∧ len1 ≤ cap1 ∧ cap1 ≤ maxLen ∧ z1.length = cap1 ∧ (∀ i, i < z1.length → w.cell? (x.add i) = some (.int .u8 (z1.getD i 0))) ∧ ∀ n ∈ z1, (Lit.int .u8 n).wf = true) (y1 : len1 * 1 ≤ 140737488351232) :
    Calls Try.prog 4 #[.slice a0 l0.length cap0, .slice a1 len1 cap1, .bool a2] w fun e w' => e = .returned (.bool true) ∧ Below w.heap.size w w' := by
  obtain ⟨l1, rfl, hr1, hm1, hw1, hc1⟩ := ReadsInt.ofRowC w1
  obtain ⟨k, h⟩ := P l0 l1 a2 hg0 hm1 y1 hw1
  refine (letterboxlaw05_LinesJoined.calls k _ _ l0 _ _ l1 a2 true w hC0 hc0 (Kd.C_of_reads (d := (0 : Int)) (h1 := fun _ => rfl) hr1) hc1 h).mono ?_
  rintro e w' ⟨rfl, hd⟩
  exact ⟨rfl, hd⟩

end Go.Proofs.Ytfpdamppppbkiaa.P
