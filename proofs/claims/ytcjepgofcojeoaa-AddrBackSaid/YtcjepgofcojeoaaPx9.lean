-- Written by a program of this session (wip/tools/mk.sh) for this claim: it runs the kit's print with contracts of our own. Lean checks it.
import Derived.Test.YtcjepgofcojeoaaPx0
import Derived.Test.YtcjepgofcojeoaaZStr
import Derived.Test.YtcjepgofcojeoaaPx1
import Derived.Test.YtcjepgofcojeoaaPx3
import Derived.Test.YtcjepgofcojeoaaPx6
namespace Go.Proofs.Ytcjepgofcojeoaa.P
open Go.RowKit Go.Proofs.YtcjepgofcojeoaaW.PrintWords Go.Proofs.YtcjepgofcojeoaaW.PrintLast Go.Proofs.YtcjepgofcojeoaaW.PrintMore
attribute [-simp] Int.tmod_tmod_of_dvd
attribute [local go_sem] max2_int min2_int max_two min_two max_three min_three max_four min_four   -- for this text's walks alone
set_option linter.unusedVariables false
set_option linter.unusedSimpArgs false

attribute [local go_sem high] eqA27
/-! ### letterboxlaw10_AddrBack: function 6 -/
mutual
def letterboxlaw10_AddrBack.j0 : Nat → List ByteArray → List ByteArray → ByteArray → Bool → Bool → Option (Bool)
  | 0, _, _, _, _, _ => none
  | k + 1, x0, x1, x2, x3, x34 => if x34 = true then (some true) else (letterboxlaw10_AddrBack.l0 k x0 x1 x2 x3 (⟨#[104]⟩ : ByteArray) 0)
def letterboxlaw10_AddrBack.l0 : Nat → List ByteArray → List ByteArray → ByteArray → Bool → ByteArray → Int → Option (Bool)
  | 0, _, _, _, _, _, _ => none
  | k + 1, x0, x1, x2, x3, x10, x11 => if x11 < (x2.size : Int) then (if 0 ≤ x11 then (if (bt x2 x11) ≥ 97 then (if (bt x2 x11) ≤ 122 then (if x11 ≤ (wrap64 (x11 + 1)) then (if (wrap64 (x11 + 1)) ≤ (x2.size : Int) then (if x10.size + (x2.extract (x11 : Int).toNat ((wrap64 (x11 + 1)) : Int).toNat).size ≤ 9223372036854775807 then (letterboxlaw10_AddrBack.l0 k x0 x1 x2 x3 (x10 ++ (x2.extract (x11 : Int).toNat ((wrap64 (x11 + 1)) : Int).toNat)) (wrap64 (x11 + 1))) else (none)) else (none)) else (none)) else (if (bt x2 x11) = 46 then (if x11 ≤ (wrap64 (x11 + 1)) then (if (wrap64 (x11 + 1)) ≤ (x2.size : Int) then (if x10.size + (x2.extract (x11 : Int).toNat ((wrap64 (x11 + 1)) : Int).toNat).size ≤ 9223372036854775807 then (letterboxlaw10_AddrBack.l0 k x0 x1 x2 x3 (x10 ++ (x2.extract (x11 : Int).toNat ((wrap64 (x11 + 1)) : Int).toNat)) (wrap64 (x11 + 1))) else (none)) else (none)) else (none)) else (if (bt x2 x11) = 45 then (if x11 ≤ (wrap64 (x11 + 1)) then (if (wrap64 (x11 + 1)) ≤ (x2.size : Int) then (if x10.size + (x2.extract (x11 : Int).toNat ((wrap64 (x11 + 1)) : Int).toNat).size ≤ 9223372036854775807 then (letterboxlaw10_AddrBack.l0 k x0 x1 x2 x3 (x10 ++ (x2.extract (x11 : Int).toNat ((wrap64 (x11 + 1)) : Int).toNat)) (wrap64 (x11 + 1))) else (none)) else (none)) else (none)) else (letterboxlaw10_AddrBack.l0 k x0 x1 x2 x3 x10 (wrap64 (x11 + 1)))))) else (if (bt x2 x11) = 46 then (if x11 ≤ (wrap64 (x11 + 1)) then (if (wrap64 (x11 + 1)) ≤ (x2.size : Int) then (if x10.size + (x2.extract (x11 : Int).toNat ((wrap64 (x11 + 1)) : Int).toNat).size ≤ 9223372036854775807 then (letterboxlaw10_AddrBack.l0 k x0 x1 x2 x3 (x10 ++ (x2.extract (x11 : Int).toNat ((wrap64 (x11 + 1)) : Int).toNat)) (wrap64 (x11 + 1))) else (none)) else (none)) else (none)) else (if (bt x2 x11) = 45 then (if x11 ≤ (wrap64 (x11 + 1)) then (if (wrap64 (x11 + 1)) ≤ (x2.size : Int) then (if x10.size + (x2.extract (x11 : Int).toNat ((wrap64 (x11 + 1)) : Int).toNat).size ≤ 9223372036854775807 then (letterboxlaw10_AddrBack.l0 k x0 x1 x2 x3 (x10 ++ (x2.extract (x11 : Int).toNat ((wrap64 (x11 + 1)) : Int).toNat)) (wrap64 (x11 + 1))) else (none)) else (none)) else (none)) else (letterboxlaw10_AddrBack.l0 k x0 x1 x2 x3 x10 (wrap64 (x11 + 1)))))) else (none)) else (if x3 = true then (if ([] : List (S27)).length < 2513169434916 then (letterboxlaw10_AddrBack.j2 k x0 x1 x3 x10 (([] : List (S27)) ++ [(⟨1, (⟨#[103]⟩ : ByteArray), (⟨#[]⟩ : ByteArray), (⟨#[]⟩ : ByteArray)⟩ : S27)])) else (none)) else (letterboxlaw10_AddrBack.j2 k x0 x1 x3 x10 ([] : List (S27))))
def letterboxlaw10_AddrBack.j2 : Nat → List ByteArray → List ByteArray → Bool → ByteArray → List (S27) → Option (Bool)
  | 0, _, _, _, _, _ => none
  | k + 1, x0, x1, x3, x10, x12 => letterboxlaw10_AddrBack.l1 k x0 x1 x3 x10 x12 0
def letterboxlaw10_AddrBack.l1 : Nat → List ByteArray → List ByteArray → Bool → ByteArray → List (S27) → Int → Option (Bool)
  | 0, _, _, _, _, _, _ => none
  | k + 1, x0, x1, x3, x10, x12, x13 => if x13 < (x0.length : Int) then (if 0 ≤ x13 then (if ((rdOf ByteArray.empty x0 x13).size : Int) > 50 then (some true) else (if x13 < (x1.length : Int) then (if ((rdOf ByteArray.empty x1 x13).size : Int) > 50 then (some true) else (if x12.length < 2513169434916 then (letterboxlaw10_AddrBack.l1 k x0 x1 x3 x10 (x12 ++ [(⟨0, rdOf ByteArray.empty x0 x13, rdOf ByteArray.empty x1 x13, x10⟩ : S27)]) (wrap64 (x13 + 1))) else (none))) else (none))) else (none)) else (if x3 = true then (if x12.length < 2513169434916 then (letterboxlaw10_AddrBack.j4 k (x12 ++ [(⟨2, (⟨#[]⟩ : ByteArray), (⟨#[]⟩ : ByteArray), (⟨#[]⟩ : ByteArray)⟩ : S27)])) else (none)) else (letterboxlaw10_AddrBack.j4 k x12))
def letterboxlaw10_AddrBack.j4 : Nat → List (S27) → Option (Bool)
  | 0, _ => none
  | k + 1, x12 => (addr_Text.f k x12).bind fun t231 => ((addr_List.f k t231).bind fun bt232 => (if bt232.2 = true then (letterboxlaw10_AddrBack.j5 k x12 bt232.1 ((bt232.1.length : Int) != (x12.length : Int))) else (letterboxlaw10_AddrBack.j5 k x12 bt232.1 true)))
def letterboxlaw10_AddrBack.j5 : Nat → List (S27) → List (S27) → Bool → Option (Bool)
  | 0, _, _, _ => none
  | k + 1, x12, x14, x127 => if x127 = true then (some false) else (letterboxlaw10_AddrBack.l2 k x12 x14 0)
def letterboxlaw10_AddrBack.l2 : Nat → List (S27) → List (S27) → Int → Option (Bool)
  | 0, _, _, _ => none
  | k + 1, x12, x14, x16 => if x16 < (x12.length : Int) then (if 0 ≤ x16 then (if x16 < (x14.length : Int) then (if (!(((rd_T27 x14 x16).f0) == ((rd_T27 x12 x16).f0)) || (!((((rd_T27 x14 x16).f1).toList) == (((rd_T27 x12 x16).f1).toList)) || (!((((rd_T27 x14 x16).f2).toList) == (((rd_T27 x12 x16).f2).toList)) || (!((((rd_T27 x14 x16).f3).toList) == (((rd_T27 x12 x16).f3).toList)))))) = true then (some false) else (letterboxlaw10_AddrBack.l2 k x12 x14 (wrap64 (x16 + 1)))) else (none)) else (none)) else (some true)
end
def letterboxlaw10_AddrBack.f (k : Nat) (l0 : List ByteArray) (l1 : List ByteArray) (a2 : ByteArray) (a3 : Bool) : Option (Bool) := (letterboxlaw10_awake.f k).bind fun t217 => (if t217 = true then (if (l0.length : Int) > 8 then (letterboxlaw10_AddrBack.j0 k l0 l1 a2 a3 true) else (if (l1.length : Int) < (l0.length : Int) then (letterboxlaw10_AddrBack.j0 k l0 l1 a2 a3 true) else (letterboxlaw10_AddrBack.j0 k l0 l1 a2 a3 (decide ((a2.size : Int) > 50))))) else (some false))
theorem letterboxlaw10_AddrBack.mono_l : ∀ k, (∀ y0 y1 y2 y3 y4, LeO (letterboxlaw10_AddrBack.j0 k y0 y1 y2 y3 y4) (letterboxlaw10_AddrBack.j0 (k + 1) y0 y1 y2 y3 y4)) ∧ (∀ y0 y1 y2 y3 y4 y5, LeO (letterboxlaw10_AddrBack.l0 k y0 y1 y2 y3 y4 y5) (letterboxlaw10_AddrBack.l0 (k + 1) y0 y1 y2 y3 y4 y5)) ∧ (∀ y0 y1 y2 y3 y4, LeO (letterboxlaw10_AddrBack.j2 k y0 y1 y2 y3 y4) (letterboxlaw10_AddrBack.j2 (k + 1) y0 y1 y2 y3 y4)) ∧ (∀ y0 y1 y2 y3 y4 y5, LeO (letterboxlaw10_AddrBack.l1 k y0 y1 y2 y3 y4 y5) (letterboxlaw10_AddrBack.l1 (k + 1) y0 y1 y2 y3 y4 y5)) ∧ (∀ y0, LeO (letterboxlaw10_AddrBack.j4 k y0) (letterboxlaw10_AddrBack.j4 (k + 1) y0)) ∧ (∀ y0 y1 y2, LeO (letterboxlaw10_AddrBack.j5 k y0 y1 y2) (letterboxlaw10_AddrBack.j5 (k + 1) y0 y1 y2)) ∧ (∀ y0 y1 y2, LeO (letterboxlaw10_AddrBack.l2 k y0 y1 y2) (letterboxlaw10_AddrBack.l2 (k + 1) y0 y1 y2))
  | 0 => ⟨fun _ _ _ _ _ r h => by simp [letterboxlaw10_AddrBack.j0] at h, fun _ _ _ _ _ _ r h => by simp [letterboxlaw10_AddrBack.l0] at h, fun _ _ _ _ _ r h => by simp [letterboxlaw10_AddrBack.j2] at h, fun _ _ _ _ _ _ r h => by simp [letterboxlaw10_AddrBack.l1] at h, fun _ r h => by simp [letterboxlaw10_AddrBack.j4] at h, fun _ _ _ r h => by simp [letterboxlaw10_AddrBack.j5] at h, fun _ _ _ r h => by simp [letterboxlaw10_AddrBack.l2] at h⟩
  | k + 1 => by
    obtain ⟨ih0, ih1, ih2, ih3, ih4, ih5, ih6⟩ := letterboxlaw10_AddrBack.mono_l k
    refine ⟨?_, ?_, ?_, ?_, ?_, ?_, ?_⟩
    · intro y0 y1 y2 y3 y4
      unfold letterboxlaw10_AddrBack.j0
      repeat' first
      | (with_reducible exact ih0 _ _ _ _ _)
      | (with_reducible exact ih1 _ _ _ _ _ _)
      | (with_reducible exact ih2 _ _ _ _ _)
      | (with_reducible exact ih3 _ _ _ _ _ _)
      | (with_reducible exact ih4 _)
      | (with_reducible exact ih5 _ _ _)
      | (with_reducible exact ih6 _ _ _)
      | (with_reducible exact addr_List.mono _ _)
      | (with_reducible exact addr_Text.mono _ _)
      | (with_reducible exact letterboxlaw10_awake.mono _)
      | (with_reducible exact LeO.refl _)
      | (with_reducible exact LeO.none _)
      | (with_reducible refine LeO.ite ?_ ?_)
      | (with_reducible refine LeO.bind ?_ (fun _ => ?_))
      | exact ih0 _ _ _ _ _
      | exact ih1 _ _ _ _ _ _
      | exact ih2 _ _ _ _ _
      | exact ih3 _ _ _ _ _ _
      | exact ih4 _
      | exact ih5 _ _ _
      | exact ih6 _ _ _
      | exact addr_List.mono _ _
      | exact addr_Text.mono _ _
      | exact letterboxlaw10_awake.mono _
      | exact LeO.none _
      | refine LeO.ite ?_ ?_
      | refine LeO.bind ?_ (fun _ => ?_)
    · intro y0 y1 y2 y3 y4 y5
      unfold letterboxlaw10_AddrBack.l0
      repeat' first
      | (with_reducible exact ih0 _ _ _ _ _)
      | (with_reducible exact ih1 _ _ _ _ _ _)
      | (with_reducible exact ih2 _ _ _ _ _)
      | (with_reducible exact ih3 _ _ _ _ _ _)
      | (with_reducible exact ih4 _)
      | (with_reducible exact ih5 _ _ _)
      | (with_reducible exact ih6 _ _ _)
      | (with_reducible exact addr_List.mono _ _)
      | (with_reducible exact addr_Text.mono _ _)
      | (with_reducible exact letterboxlaw10_awake.mono _)
      | (with_reducible exact LeO.refl _)
      | (with_reducible exact LeO.none _)
      | (with_reducible refine LeO.ite ?_ ?_)
      | (with_reducible refine LeO.bind ?_ (fun _ => ?_))
      | exact ih0 _ _ _ _ _
      | exact ih1 _ _ _ _ _ _
      | exact ih2 _ _ _ _ _
      | exact ih3 _ _ _ _ _ _
      | exact ih4 _
      | exact ih5 _ _ _
      | exact ih6 _ _ _
      | exact addr_List.mono _ _
      | exact addr_Text.mono _ _
      | exact letterboxlaw10_awake.mono _
      | exact LeO.none _
      | refine LeO.ite ?_ ?_
      | refine LeO.bind ?_ (fun _ => ?_)
    · intro y0 y1 y2 y3 y4
      unfold letterboxlaw10_AddrBack.j2
      repeat' first
      | (with_reducible exact ih0 _ _ _ _ _)
      | (with_reducible exact ih1 _ _ _ _ _ _)
      | (with_reducible exact ih2 _ _ _ _ _)
      | (with_reducible exact ih3 _ _ _ _ _ _)
      | (with_reducible exact ih4 _)
      | (with_reducible exact ih5 _ _ _)
      | (with_reducible exact ih6 _ _ _)
      | (with_reducible exact addr_List.mono _ _)
      | (with_reducible exact addr_Text.mono _ _)
      | (with_reducible exact letterboxlaw10_awake.mono _)
      | (with_reducible exact LeO.refl _)
      | (with_reducible exact LeO.none _)
      | (with_reducible refine LeO.ite ?_ ?_)
      | (with_reducible refine LeO.bind ?_ (fun _ => ?_))
      | exact ih0 _ _ _ _ _
      | exact ih1 _ _ _ _ _ _
      | exact ih2 _ _ _ _ _
      | exact ih3 _ _ _ _ _ _
      | exact ih4 _
      | exact ih5 _ _ _
      | exact ih6 _ _ _
      | exact addr_List.mono _ _
      | exact addr_Text.mono _ _
      | exact letterboxlaw10_awake.mono _
      | exact LeO.none _
      | refine LeO.ite ?_ ?_
      | refine LeO.bind ?_ (fun _ => ?_)
    · intro y0 y1 y2 y3 y4 y5
      unfold letterboxlaw10_AddrBack.l1
      repeat' first
      | (with_reducible exact ih0 _ _ _ _ _)
      | (with_reducible exact ih1 _ _ _ _ _ _)
      | (with_reducible exact ih2 _ _ _ _ _)
      | (with_reducible exact ih3 _ _ _ _ _ _)
      | (with_reducible exact ih4 _)
      | (with_reducible exact ih5 _ _ _)
      | (with_reducible exact ih6 _ _ _)
      | (with_reducible exact addr_List.mono _ _)
      | (with_reducible exact addr_Text.mono _ _)
      | (with_reducible exact letterboxlaw10_awake.mono _)
      | (with_reducible exact LeO.refl _)
      | (with_reducible exact LeO.none _)
      | (with_reducible refine LeO.ite ?_ ?_)
      | (with_reducible refine LeO.bind ?_ (fun _ => ?_))
      | exact ih0 _ _ _ _ _
      | exact ih1 _ _ _ _ _ _
      | exact ih2 _ _ _ _ _
      | exact ih3 _ _ _ _ _ _
      | exact ih4 _
      | exact ih5 _ _ _
      | exact ih6 _ _ _
      | exact addr_List.mono _ _
      | exact addr_Text.mono _ _
      | exact letterboxlaw10_awake.mono _
      | exact LeO.none _
      | refine LeO.ite ?_ ?_
      | refine LeO.bind ?_ (fun _ => ?_)
    · intro y0
      unfold letterboxlaw10_AddrBack.j4
      repeat' first
      | (with_reducible exact ih0 _ _ _ _ _)
      | (with_reducible exact ih1 _ _ _ _ _ _)
      | (with_reducible exact ih2 _ _ _ _ _)
      | (with_reducible exact ih3 _ _ _ _ _ _)
      | (with_reducible exact ih4 _)
      | (with_reducible exact ih5 _ _ _)
      | (with_reducible exact ih6 _ _ _)
      | (with_reducible exact addr_List.mono _ _)
      | (with_reducible exact addr_Text.mono _ _)
      | (with_reducible exact letterboxlaw10_awake.mono _)
      | (with_reducible exact LeO.refl _)
      | (with_reducible exact LeO.none _)
      | (with_reducible refine LeO.ite ?_ ?_)
      | (with_reducible refine LeO.bind ?_ (fun _ => ?_))
      | exact ih0 _ _ _ _ _
      | exact ih1 _ _ _ _ _ _
      | exact ih2 _ _ _ _ _
      | exact ih3 _ _ _ _ _ _
      | exact ih4 _
      | exact ih5 _ _ _
      | exact ih6 _ _ _
      | exact addr_List.mono _ _
      | exact addr_Text.mono _ _
      | exact letterboxlaw10_awake.mono _
      | exact LeO.none _
      | refine LeO.ite ?_ ?_
      | refine LeO.bind ?_ (fun _ => ?_)
    · intro y0 y1 y2
      unfold letterboxlaw10_AddrBack.j5
      repeat' first
      | (with_reducible exact ih0 _ _ _ _ _)
      | (with_reducible exact ih1 _ _ _ _ _ _)
      | (with_reducible exact ih2 _ _ _ _ _)
      | (with_reducible exact ih3 _ _ _ _ _ _)
      | (with_reducible exact ih4 _)
      | (with_reducible exact ih5 _ _ _)
      | (with_reducible exact ih6 _ _ _)
      | (with_reducible exact addr_List.mono _ _)
      | (with_reducible exact addr_Text.mono _ _)
      | (with_reducible exact letterboxlaw10_awake.mono _)
      | (with_reducible exact LeO.refl _)
      | (with_reducible exact LeO.none _)
      | (with_reducible refine LeO.ite ?_ ?_)
      | (with_reducible refine LeO.bind ?_ (fun _ => ?_))
      | exact ih0 _ _ _ _ _
      | exact ih1 _ _ _ _ _ _
      | exact ih2 _ _ _ _ _
      | exact ih3 _ _ _ _ _ _
      | exact ih4 _
      | exact ih5 _ _ _
      | exact ih6 _ _ _
      | exact addr_List.mono _ _
      | exact addr_Text.mono _ _
      | exact letterboxlaw10_awake.mono _
      | exact LeO.none _
      | refine LeO.ite ?_ ?_
      | refine LeO.bind ?_ (fun _ => ?_)
    · intro y0 y1 y2
      unfold letterboxlaw10_AddrBack.l2
      repeat' first
      | (with_reducible exact ih0 _ _ _ _ _)
      | (with_reducible exact ih1 _ _ _ _ _ _)
      | (with_reducible exact ih2 _ _ _ _ _)
      | (with_reducible exact ih3 _ _ _ _ _ _)
      | (with_reducible exact ih4 _)
      | (with_reducible exact ih5 _ _ _)
      | (with_reducible exact ih6 _ _ _)
      | (with_reducible exact addr_List.mono _ _)
      | (with_reducible exact addr_Text.mono _ _)
      | (with_reducible exact letterboxlaw10_awake.mono _)
      | (with_reducible exact LeO.refl _)
      | (with_reducible exact LeO.none _)
      | (with_reducible refine LeO.ite ?_ ?_)
      | (with_reducible refine LeO.bind ?_ (fun _ => ?_))
      | exact ih0 _ _ _ _ _
      | exact ih1 _ _ _ _ _ _
      | exact ih2 _ _ _ _ _
      | exact ih3 _ _ _ _ _ _
      | exact ih4 _
      | exact ih5 _ _ _
      | exact ih6 _ _ _
      | exact addr_List.mono _ _
      | exact addr_Text.mono _ _
      | exact letterboxlaw10_awake.mono _
      | exact LeO.none _
      | refine LeO.ite ?_ ?_
      | refine LeO.bind ?_ (fun _ => ?_)
theorem letterboxlaw10_AddrBack.mono : ∀ a0 a1 a2 a3 k, LeO (letterboxlaw10_AddrBack.f k a0 a1 a2 a3) (letterboxlaw10_AddrBack.f (k + 1) a0 a1 a2 a3) := by
  intro a0 a1 a2 a3 k
  obtain ⟨ih0, ih1, ih2, ih3, ih4, ih5, ih6⟩ := letterboxlaw10_AddrBack.mono_l k
  unfold letterboxlaw10_AddrBack.f
  repeat' first
      | (with_reducible exact ih0 _ _ _ _ _)
      | (with_reducible exact ih1 _ _ _ _ _ _)
      | (with_reducible exact ih2 _ _ _ _ _)
      | (with_reducible exact ih3 _ _ _ _ _ _)
      | (with_reducible exact ih4 _)
      | (with_reducible exact ih5 _ _ _)
      | (with_reducible exact ih6 _ _ _)
      | (with_reducible exact addr_List.mono _ _)
      | (with_reducible exact addr_Text.mono _ _)
      | (with_reducible exact letterboxlaw10_awake.mono _)
      | (with_reducible exact LeO.refl _)
      | (with_reducible exact LeO.none _)
      | (with_reducible refine LeO.ite ?_ ?_)
      | (with_reducible refine LeO.bind ?_ (fun _ => ?_))
      | exact ih0 _ _ _ _ _
      | exact ih1 _ _ _ _ _ _
      | exact ih2 _ _ _ _ _
      | exact ih3 _ _ _ _ _ _
      | exact ih4 _
      | exact ih5 _ _ _
      | exact ih6 _ _ _
      | exact addr_List.mono _ _
      | exact addr_Text.mono _ _
      | exact letterboxlaw10_awake.mono _
      | exact LeO.none _
      | refine LeO.ite ?_ ?_
      | refine LeO.bind ?_ (fun _ => ?_)
def letterboxlaw10_AddrBack.T20 : Bool × List (List Nat × List Nat) := (true, [([], []), ([], []), ([], []), ([1, 2], [1, 2]), ([3], [3]), ([], []), ([], []), ([5, 6], [5, 6]), ([7], [7]), ([], []), ([4, 8, 9], [4, 8, 9]), ([10], [10]), ([0, 11], [0, 11]), ([12, 12, 0, 1, 2, 3, 4, 5, 6, 7, 8, 9, 10, 11, 12], [0, 12])])
def letterboxlaw10_AddrBack.B20 : List Nat := [0, 0, 0, 6, 14, 0, 0, 96, 224, 0, 1022, 2046, 4095, 8191]
theorem letterboxlaw10_AddrBack.tab20 : rtab .any (opsOf Try.f6 20) = letterboxlaw10_AddrBack.T20 := by kernel_rfl
theorem letterboxlaw10_AddrBack.bits20 : waitsOk letterboxlaw10_AddrBack.T20.2 letterboxlaw10_AddrBack.B20 = true := by kernel_rfl
def letterboxlaw10_AddrBack.T29 : Bool × List (List Nat × List Nat) := (true, [([], []), ([], []), ([0, 1], [0, 1]), ([2], [2]), ([], []), ([], []), ([4, 5], [4, 5]), ([6], [6]), ([3, 7], [3, 7])])
def letterboxlaw10_AddrBack.B29 : List Nat := [0, 0, 3, 7, 0, 0, 48, 112, 255]
theorem letterboxlaw10_AddrBack.tab29 : rtab .any (opsOf Try.f6 29) = letterboxlaw10_AddrBack.T29 := by kernel_rfl
theorem letterboxlaw10_AddrBack.bits29 : waitsOk letterboxlaw10_AddrBack.T29.2 letterboxlaw10_AddrBack.B29 = true := by kernel_rfl
set_option maxHeartbeats 8000000 in
set_option maxRecDepth 100000 in
theorem letterboxlaw10_AddrBack.calls (k : Nat) (A0 : Option Addr) (c0 : Nat) (l0 : List ByteArray) (A1 : Option Addr) (c1 : Nat) (l1 : List ByteArray) (a2 : ByteArray) (a3 : Bool) (r : Bool) (w : World) (hr0 : Kd.C Kd.string w A0 l0.length l0) (hc0 : l0.length ≤ c0) (hr1 : Kd.C Kd.string w A1 l1.length l1) (hc1 : l1.length ≤ c1) (h : letterboxlaw10_AddrBack.f k l0 l1 a2 a3 = some r) :
    Calls Try.prog 6 #[.slice A0 l0.length c0, .slice A1 l1.length c1, .string a2, .bool a3] w fun e w' => e = .returned (.bool r) ∧ Below w.heap.size w w' := by
  have hu27 := Try.underlying27
  have hw8_ : ∀ x_ : Int, IntKind.u8.wrap x_ = x_ % 256 := IntKind.wrap_u8
  have HR0 := Aside0.mk hr0
  have HC0 := Aside0.mk hc0
  clear hr0 hc0
  have HR1 := Aside0.mk hr1
  have HC1 := Aside0.mk hc1
  clear hr1 hc1
  have HB := Aside0.mk (Below.refl w.heap.size w)
  have H : ((letterboxlaw10_awake.f k).bind fun t217 => (if t217 = true then (if (l0.length : Int) > 8 then (letterboxlaw10_AddrBack.j0 k l0 l1 a2 a3 true) else (if (l1.length : Int) < (l0.length : Int) then (letterboxlaw10_AddrBack.j0 k l0 l1 a2 a3 true) else (letterboxlaw10_AddrBack.j0 k l0 l1 a2 a3 (decide ((a2.size : Int) > 50))))) else (some false))) = some r := h
  clear h
  replace H := Option.bind_eq_some_iff.mp H
  obtain ⟨t217, A50, H⟩ := H
  replace H : (if t217 = true then (if (l0.length : Int) > 8 then (letterboxlaw10_AddrBack.j0 k l0 l1 a2 a3 true) else (if (l1.length : Int) < (l0.length : Int) then (letterboxlaw10_AddrBack.j0 k l0 l1 a2 a3 true) else (letterboxlaw10_AddrBack.j0 k l0 l1 a2 a3 (decide ((a2.size : Int) > 50))))) else (some false)) = some r := H
  have A5 := Aside0.mk A50
  clear A50
  by_cases c6 : t217 = true
  · subst c6
    have H1 : (if (l0.length : Int) > 8 then (letterboxlaw10_AddrBack.j0 k l0 l1 a2 a3 true) else (if (l1.length : Int) < (l0.length : Int) then (letterboxlaw10_AddrBack.j0 k l0 l1 a2 a3 true) else (letterboxlaw10_AddrBack.j0 k l0 l1 a2 a3 (decide ((a2.size : Int) > 50))))) = some r := by rw [if_pos rfl] at H; exact H
    clear H
    have H := H1
    clear H1
    have HC7 := Aside0.mk H
    clear H
    go_enter Try.func6, Try.ntmps6
    go_upto_region 4 with (first | ((with_reducible refine gate_callee (f := 7) rfl ?_); refine goesL_ (some 17) rfl rfl Try.func7 (by kernel_rfl) rfl #[] rfl (by (try simp only [List.map_toArray, List.map_cons, List.map_nil]); first | done | rfl | (simp only [List.length_drop, List.length_take]; rfl)) ?_; (with_reducible refine (letterboxlaw10_awake.calls k  true _ A5.out).mono ?_); rintro e w8 ⟨rfl, hb⟩; refine ⟨_, rfl, ?_⟩; have n0_ := Aside0.mk (below_step (by repeat (first | (with_reducible first | exact HB.out | apply below_alloc | apply pw_below_drewN | apply below_drew1) | exact HB.out)) hb); clear HB; have HB := n0_; clear n0_; (try clear hb); (try clear hb2); (try clear hk); (try clear hi)))
    (try simp only [Act.put, List.setIfInBounds_toArray, List.set_cons_zero, List.set_cons_succ])
    go_cut [34] (fun v34 wc => ∃ (kq : Nat) (x34_6 : Bool), v34 = .bool x34_6 ∧ Aside0 (letterboxlaw10_AddrBack.j0 kq l0 l1 a2 a3 x34_6 = some r) ∧ Aside0 (kq ≤ k) ∧ Aside0 (Below w.heap.size w wc))
    case first =>
      have H := HC7.out
      clear HC7
      by_cases c9 : (l0.length : Int) > 8
      · rw [if_pos c9] at H
        have c9b0 : decide (8 < (l0.length : Int)) = true := decide_eq_true c9
        have c9b1 : decide (8 < l0.length) = true := decide_eq_true (by omega)
        clear c9
        (first | rw [c9b0] | (simp only [i64_w, i32_w]; rw [c9b0]) | skip)
        have H' := Aside0.mk H
        clear H
        go_wp2
        go_meet
        case rel => exact ⟨_, (true), (by first | rfl | (simp; done) | (simp [*]; done)), H', ⟨by first | omega | exact Nat.le_refl _⟩, ⟨by repeat (first | (with_reducible first | exact HB.out | apply below_alloc | apply pw_below_drewN | apply below_drew1) | exact HB.out)⟩⟩
      · rw [if_neg c9] at H
        have c9b0 : decide (8 < (l0.length : Int)) = false := decide_eq_false c9
        have c9b1 : decide (8 < l0.length) = false := decide_eq_false (by omega)
        clear c9
        (first | rw [c9b0] | (simp only [i64_w, i32_w]; rw [c9b0]) | skip)
        by_cases c10 : (l1.length : Int) < (l0.length : Int)
        · rw [if_pos c10] at H
          have c10b0 : decide ((l1.length : Int) < (l0.length : Int)) = true := decide_eq_true c10
          have c10b1 : decide (l1.length < l0.length) = true := decide_eq_true (Int.ofNat_lt.mp c10)
          clear c10
          have H' := Aside0.mk H
          clear H
          go_wp2
          go_meet
          case rel => exact ⟨_, (true), (by first | rfl | (simp; done) | (simp [*]; done)), H', ⟨by first | omega | exact Nat.le_refl _⟩, ⟨by repeat (first | (with_reducible first | exact HB.out | apply below_alloc | apply pw_below_drewN | apply below_drew1) | exact HB.out)⟩⟩
        · rw [if_neg c10] at H
          have c10b0 : decide ((l1.length : Int) < (l0.length : Int)) = false := decide_eq_false c10
          have c10b1 : decide (l1.length < l0.length) = false := decide_eq_false (fun h => c10 (Int.ofNat_lt.mpr h))
          clear c10
          have H' := Aside0.mk H
          clear H
          go_wp2
          go_meet
          case rel => exact ⟨_, (decide ((a2.size : Int) > 50)), (by first | rfl | (simp; done) | (simp [*]; done)), H', ⟨by first | omega | exact Nat.le_refl _⟩, ⟨by repeat (first | (with_reducible first | exact HB.out | apply below_alloc | apply pw_below_drewN | apply below_drew1) | exact HB.out)⟩⟩
    case rest =>
      clear HC7
      try clear c1
      try clear p2
      try clear c6
      try clear c7
      try clear c9
      try clear c9b0
      try clear c9b1
      try clear c10
      try clear c10b0
      try clear c10b1
      obtain ⟨kq, x34_6, rfl, HA, HJ6, HB⟩ := hcut
      cases kq with
      | zero => exact absurd HA.out (by simp [letterboxlaw10_AddrBack.j0])
      | succ kj6 =>
        have H := HA.out
        clear HA
        simp only [letterboxlaw10_AddrBack.j0] at H
        by_cases c11 : x34_6 = true
        · subst c11
          have H1 : (some true) = some r := by rw [if_pos rfl] at H; exact H
          clear H
          have H := H1
          clear H1
          obtain rfl := Option.some.inj H
          go_wp2
          go_ret
          exact ⟨by first | rfl | (simp [errW_none, errW_some] <;> rfl) | (simp [*, errW_none, errW_some] <;> rfl), by repeat (first | (with_reducible first | exact HB.out | apply below_alloc | apply pw_below_drewN | apply below_drew1) | exact HB.out)⟩
        · replace c11 := Bool.eq_false_iff.mpr c11
          subst c11
          have H1 : (letterboxlaw10_AddrBack.l0 kj6 l0 l1 a2 a3 (⟨#[104]⟩ : ByteArray) 0) = some r := by rw [if_neg (show ¬ (false = true) by decide)] at H; exact H
          clear H
          have H := H1
          clear H1
          have H' := Aside0.mk H
          clear H
          go_wp2
          go_loopg [10, 11] kj6 (fun kq v10 v11 w' => ∃ (x10_2 : ByteArray) (x11_2 : Int), v10 = .string x10_2 ∧ v11 = .int .i64 x11_2 ∧ Aside0 (letterboxlaw10_AddrBack.l0 kq l0 l1 a2 a3 x10_2 x11_2 = some r) ∧ Aside0 (kq ≤ kj6) ∧ Aside0 (Below w.heap.size w w'))
          case atStart => exact ⟨((⟨#[104]⟩ : ByteArray)), (0), (by first | rfl | (simp; done) | (simp [*]; done)), (by first | rfl | (simp; done) | (simp [*]; done)), H', ⟨Nat.le_refl _⟩, ⟨by repeat (first | (with_reducible first | exact HB.out | apply below_alloc | apply pw_below_drewN | apply below_drew1) | exact HB.out)⟩⟩
          case round =>
            clear H'
            try clear c1
            try clear p2
            try clear c6
            try clear c7
            try clear c9
            try clear c9b0
            try clear c9b1
            try clear c10
            try clear c10b0
            try clear c10b1
            try clear c11
            try clear p2
            obtain ⟨x10_2, x11_2, rfl, rfl, HA, HK2, HB⟩ := hrel
            cases gk with
            | zero => exact absurd HA.out (by simp [letterboxlaw10_AddrBack.l0])
            | succ k2 =>
              have H := HA.out
              clear HA
              simp only [letterboxlaw10_AddrBack.l0] at H
              by_cases c12 : x11_2 < (a2.size : Int)
              · rw [if_pos c12] at H
                have c12b0 : decide (x11_2 < (a2.size : Int)) = true := decide_eq_true c12
                clear c12
                by_cases c13 : 0 ≤ x11_2
                · rw [if_pos c13] at H
                  have c13b0 : decide (0 ≤ x11_2) = true := decide_eq_true c13
                  clear c13
                  by_cases c15 : (bt a2 x11_2) ≥ 97
                  · rw [if_pos c15] at H
                    have c15b0 : decide (97 ≤ (bt a2 x11_2)) = true := decide_eq_true c15
                    clear c15
                    by_cases c17 : (bt a2 x11_2) ≤ 122
                    · rw [if_pos c17] at H
                      have c17b0 : decide ((bt a2 x11_2) ≤ 122) = true := decide_eq_true c17
                      clear c17
                      have c18b0 := eq_true (of_decide_eq_true (by first | (with_reducible assumption) | assumption) : 0 ≤ x11_2)
                      by_cases c19 : x11_2 ≤ (wrap64 (x11_2 + 1))
                      · rw [if_pos c19] at H
                        have c19b0 := eq_true c19
                        have c19b1 : decide (x11_2 ≤ (wrap64 (x11_2 + 1))) = true := decide_eq_true c19
                        by_cases c20 : (wrap64 (x11_2 + 1)) ≤ (a2.size : Int)
                        · rw [if_pos c20] at H
                          have c20b0 := eq_true c20
                          have c20b1 : decide ((wrap64 (x11_2 + 1)) ≤ (a2.size : Int)) = true := decide_eq_true c20
                          by_cases c21 : x10_2.size + (a2.extract (x11_2 : Int).toNat ((wrap64 (x11_2 + 1)) : Int).toNat).size ≤ 9223372036854775807
                          · rw [if_pos c21] at H
                            have c21b0 := eq_true c21
                            have c21b1 : decide (x10_2.size + (a2.extract (x11_2 : Int).toNat ((wrap64 (x11_2 + 1)) : Int).toNat).size ≤ 9223372036854775807) = true := decide_eq_true c21
                            try have c21b2 : (9223372036854775807 < x10_2.size + (a2.extract (x11_2 : Int).toNat ((wrap64 (x11_2 + 1)) : Int).toNat).size) = False := eq_false (Nat.not_lt.2 c21)
                            (try (have c21h := c21; simp only [ByteArray.size_append, ByteArray.size_extract, Int.toNat_natCast, Nat.sub_zero, Nat.min_self, ByteArray.extract_zero_size] at c21h; have c21b7 := eq_false (Nat.not_lt.2 c21h); clear c21h))
                            try have c21b5 : (9223372036854775807 < x10_2.size + (((wrap64 (x11_2 + 1)) : Int).toNat - (x11_2 : Int).toNat)) = False := eq_false (Nat.not_lt.2 (by have h_ := c21; (try have e0_ : (wrap64 (x11_2 + 1)) ≤ (a2.size : Int) := of_decide_eq_true (by first | (with_reducible assumption) | assumption)); simp only [ByteArray.size_append, ByteArray.size_extract] at h_ ⊢; omega))
                            have H' := Aside0.mk H
                            clear H
                            have p14 : 0 ≤ (x11_2 : Int) := of_decide_eq_true (by first | (with_reducible assumption) | assumption)
                            have q14 : x11_2 < (a2.size : Int) := of_decide_eq_true (by first | (with_reducible assumption) | assumption)
                            have hx14 := bt_at a2 x11_2
                            replace p14 := eq_true p14
                            replace q14 := eq_true q14
                            have p16 : 0 ≤ (x11_2 : Int) := of_decide_eq_true (by first | (with_reducible assumption) | assumption)
                            have q16 : x11_2 < (a2.size : Int) := of_decide_eq_true (by first | (with_reducible assumption) | assumption)
                            have hx16 := bt_at a2 x11_2
                            replace p16 := eq_true p16
                            replace q16 := eq_true q16
                            go_wp2
                            go_roundg k2
                            case measure => have := HJ6.out; have := HK2.out; omega
                            case rel => exact ⟨(x10_2 ++ (a2.extract (x11_2 : Int).toNat ((wrap64 (x11_2 + 1)) : Int).toNat)), (wrap64 (x11_2 + 1)), (by first | rfl | (simp; done) | (simp [*]; done)), (by first | rfl | (simp; done) | (simp [*]; done)), H', ⟨by have := HJ6.out; have := HK2.out; omega⟩, ⟨by repeat (first | (with_reducible first | exact HB.out | apply below_alloc | apply pw_below_drewN | apply below_drew1) | exact HB.out)⟩⟩
                          · rw [if_neg c21] at H
                            exact absurd H (by simp)
                        · rw [if_neg c20] at H
                          exact absurd H (by simp)
                      · rw [if_neg c19] at H
                        exact absurd H (by simp)
                    · rw [if_neg c17] at H
                      have c17b0 : decide ((bt a2 x11_2) ≤ 122) = false := decide_eq_false c17
                      clear c17
                      by_cases c23 : (bt a2 x11_2) = 46
                      · rw [if_pos c23] at H
                        have c23b0 : ((bt a2 x11_2) == 46) = true := beq_iff_eq.mpr c23
                        have c23b1 : ((bt a2 x11_2) != 46) = false := bne_eq_false_iff_eq.mpr c23
                        clear c23
                        have c24b0 := eq_true (of_decide_eq_true (by first | (with_reducible assumption) | assumption) : 0 ≤ x11_2)
                        by_cases c25 : x11_2 ≤ (wrap64 (x11_2 + 1))
                        · rw [if_pos c25] at H
                          have c25b0 := eq_true c25
                          have c25b1 : decide (x11_2 ≤ (wrap64 (x11_2 + 1))) = true := decide_eq_true c25
                          by_cases c26 : (wrap64 (x11_2 + 1)) ≤ (a2.size : Int)
                          · rw [if_pos c26] at H
                            have c26b0 := eq_true c26
                            have c26b1 : decide ((wrap64 (x11_2 + 1)) ≤ (a2.size : Int)) = true := decide_eq_true c26
                            by_cases c27 : x10_2.size + (a2.extract (x11_2 : Int).toNat ((wrap64 (x11_2 + 1)) : Int).toNat).size ≤ 9223372036854775807
                            · rw [if_pos c27] at H
                              have c27b0 := eq_true c27
                              have c27b1 : decide (x10_2.size + (a2.extract (x11_2 : Int).toNat ((wrap64 (x11_2 + 1)) : Int).toNat).size ≤ 9223372036854775807) = true := decide_eq_true c27
                              try have c27b2 : (9223372036854775807 < x10_2.size + (a2.extract (x11_2 : Int).toNat ((wrap64 (x11_2 + 1)) : Int).toNat).size) = False := eq_false (Nat.not_lt.2 c27)
                              (try (have c27h := c27; simp only [ByteArray.size_append, ByteArray.size_extract, Int.toNat_natCast, Nat.sub_zero, Nat.min_self, ByteArray.extract_zero_size] at c27h; have c27b7 := eq_false (Nat.not_lt.2 c27h); clear c27h))
                              try have c27b5 : (9223372036854775807 < x10_2.size + (((wrap64 (x11_2 + 1)) : Int).toNat - (x11_2 : Int).toNat)) = False := eq_false (Nat.not_lt.2 (by have h_ := c27; (try have e0_ : (wrap64 (x11_2 + 1)) ≤ (a2.size : Int) := of_decide_eq_true (by first | (with_reducible assumption) | assumption)); simp only [ByteArray.size_append, ByteArray.size_extract] at h_ ⊢; omega))
                              have H' := Aside0.mk H
                              clear H
                              have p14 : 0 ≤ (x11_2 : Int) := of_decide_eq_true (by first | (with_reducible assumption) | assumption)
                              have q14 : x11_2 < (a2.size : Int) := of_decide_eq_true (by first | (with_reducible assumption) | assumption)
                              have hx14 := bt_at a2 x11_2
                              replace p14 := eq_true p14
                              replace q14 := eq_true q14
                              have p16 : 0 ≤ (x11_2 : Int) := of_decide_eq_true (by first | (with_reducible assumption) | assumption)
                              have q16 : x11_2 < (a2.size : Int) := of_decide_eq_true (by first | (with_reducible assumption) | assumption)
                              have hx16 := bt_at a2 x11_2
                              replace p16 := eq_true p16
                              replace q16 := eq_true q16
                              have p22 : 0 ≤ (x11_2 : Int) := of_decide_eq_true (by first | (with_reducible assumption) | assumption)
                              have q22 : x11_2 < (a2.size : Int) := of_decide_eq_true (by first | (with_reducible assumption) | assumption)
                              have hx22 := bt_at a2 x11_2
                              replace p22 := eq_true p22
                              replace q22 := eq_true q22
                              go_wp2
                              go_roundg k2
                              case measure => have := HJ6.out; have := HK2.out; omega
                              case rel => exact ⟨(x10_2 ++ (a2.extract (x11_2 : Int).toNat ((wrap64 (x11_2 + 1)) : Int).toNat)), (wrap64 (x11_2 + 1)), (by first | rfl | (simp; done) | (simp [*]; done)), (by first | rfl | (simp; done) | (simp [*]; done)), H', ⟨by have := HJ6.out; have := HK2.out; omega⟩, ⟨by repeat (first | (with_reducible first | exact HB.out | apply below_alloc | apply pw_below_drewN | apply below_drew1) | exact HB.out)⟩⟩
                            · rw [if_neg c27] at H
                              exact absurd H (by simp)
                          · rw [if_neg c26] at H
                            exact absurd H (by simp)
                        · rw [if_neg c25] at H
                          exact absurd H (by simp)
                      · rw [if_neg c23] at H
                        have c23b0 : ((bt a2 x11_2) == 46) = false := beq_eq_false_iff_ne.mpr c23
                        have c23b1 : ((bt a2 x11_2) != 46) = true := bne_iff_ne.mpr c23
                        by_cases c29 : (bt a2 x11_2) = 45
                        · rw [if_pos c29] at H
                          have c29b0 : ((bt a2 x11_2) == 45) = true := beq_iff_eq.mpr c29
                          have c29b1 : ((bt a2 x11_2) != 45) = false := bne_eq_false_iff_eq.mpr c29
                          clear c29
                          have c30b0 := eq_true (of_decide_eq_true (by first | (with_reducible assumption) | assumption) : 0 ≤ x11_2)
                          by_cases c31 : x11_2 ≤ (wrap64 (x11_2 + 1))
                          · rw [if_pos c31] at H
                            have c31b0 := eq_true c31
                            have c31b1 : decide (x11_2 ≤ (wrap64 (x11_2 + 1))) = true := decide_eq_true c31
                            by_cases c32 : (wrap64 (x11_2 + 1)) ≤ (a2.size : Int)
                            · rw [if_pos c32] at H
                              have c32b0 := eq_true c32
                              have c32b1 : decide ((wrap64 (x11_2 + 1)) ≤ (a2.size : Int)) = true := decide_eq_true c32
                              by_cases c33 : x10_2.size + (a2.extract (x11_2 : Int).toNat ((wrap64 (x11_2 + 1)) : Int).toNat).size ≤ 9223372036854775807
                              · rw [if_pos c33] at H
                                have c33b0 := eq_true c33
                                have c33b1 : decide (x10_2.size + (a2.extract (x11_2 : Int).toNat ((wrap64 (x11_2 + 1)) : Int).toNat).size ≤ 9223372036854775807) = true := decide_eq_true c33
                                try have c33b2 : (9223372036854775807 < x10_2.size + (a2.extract (x11_2 : Int).toNat ((wrap64 (x11_2 + 1)) : Int).toNat).size) = False := eq_false (Nat.not_lt.2 c33)
                                (try (have c33h := c33; simp only [ByteArray.size_append, ByteArray.size_extract, Int.toNat_natCast, Nat.sub_zero, Nat.min_self, ByteArray.extract_zero_size] at c33h; have c33b7 := eq_false (Nat.not_lt.2 c33h); clear c33h))
                                try have c33b5 : (9223372036854775807 < x10_2.size + (((wrap64 (x11_2 + 1)) : Int).toNat - (x11_2 : Int).toNat)) = False := eq_false (Nat.not_lt.2 (by have h_ := c33; (try have e0_ : (wrap64 (x11_2 + 1)) ≤ (a2.size : Int) := of_decide_eq_true (by first | (with_reducible assumption) | assumption)); simp only [ByteArray.size_append, ByteArray.size_extract] at h_ ⊢; omega))
                                have H' := Aside0.mk H
                                clear H
                                have p14 : 0 ≤ (x11_2 : Int) := of_decide_eq_true (by first | (with_reducible assumption) | assumption)
                                have q14 : x11_2 < (a2.size : Int) := of_decide_eq_true (by first | (with_reducible assumption) | assumption)
                                have hx14 := bt_at a2 x11_2
                                replace p14 := eq_true p14
                                replace q14 := eq_true q14
                                have p16 : 0 ≤ (x11_2 : Int) := of_decide_eq_true (by first | (with_reducible assumption) | assumption)
                                have q16 : x11_2 < (a2.size : Int) := of_decide_eq_true (by first | (with_reducible assumption) | assumption)
                                have hx16 := bt_at a2 x11_2
                                replace p16 := eq_true p16
                                replace q16 := eq_true q16
                                have p22 : 0 ≤ (x11_2 : Int) := of_decide_eq_true (by first | (with_reducible assumption) | assumption)
                                have q22 : x11_2 < (a2.size : Int) := of_decide_eq_true (by first | (with_reducible assumption) | assumption)
                                have hx22 := bt_at a2 x11_2
                                replace p22 := eq_true p22
                                replace q22 := eq_true q22
                                have p28 : 0 ≤ (x11_2 : Int) := of_decide_eq_true (by first | (with_reducible assumption) | assumption)
                                have q28 : x11_2 < (a2.size : Int) := of_decide_eq_true (by first | (with_reducible assumption) | assumption)
                                have hx28 := bt_at a2 x11_2
                                replace p28 := eq_true p28
                                replace q28 := eq_true q28
                                go_wp2
                                go_roundg k2
                                case measure => have := HJ6.out; have := HK2.out; omega
                                case rel => exact ⟨(x10_2 ++ (a2.extract (x11_2 : Int).toNat ((wrap64 (x11_2 + 1)) : Int).toNat)), (wrap64 (x11_2 + 1)), (by first | rfl | (simp; done) | (simp [*]; done)), (by first | rfl | (simp; done) | (simp [*]; done)), H', ⟨by have := HJ6.out; have := HK2.out; omega⟩, ⟨by repeat (first | (with_reducible first | exact HB.out | apply below_alloc | apply pw_below_drewN | apply below_drew1) | exact HB.out)⟩⟩
                              · rw [if_neg c33] at H
                                exact absurd H (by simp)
                            · rw [if_neg c32] at H
                              exact absurd H (by simp)
                          · rw [if_neg c31] at H
                            exact absurd H (by simp)
                        · rw [if_neg c29] at H
                          have c29b0 : ((bt a2 x11_2) == 45) = false := beq_eq_false_iff_ne.mpr c29
                          have c29b1 : ((bt a2 x11_2) != 45) = true := bne_iff_ne.mpr c29
                          have H' := Aside0.mk H
                          clear H
                          have p14 : 0 ≤ (x11_2 : Int) := of_decide_eq_true (by first | (with_reducible assumption) | assumption)
                          have q14 : x11_2 < (a2.size : Int) := of_decide_eq_true (by first | (with_reducible assumption) | assumption)
                          have hx14 := bt_at a2 x11_2
                          replace p14 := eq_true p14
                          replace q14 := eq_true q14
                          have p16 : 0 ≤ (x11_2 : Int) := of_decide_eq_true (by first | (with_reducible assumption) | assumption)
                          have q16 : x11_2 < (a2.size : Int) := of_decide_eq_true (by first | (with_reducible assumption) | assumption)
                          have hx16 := bt_at a2 x11_2
                          replace p16 := eq_true p16
                          replace q16 := eq_true q16
                          have p22 : 0 ≤ (x11_2 : Int) := of_decide_eq_true (by first | (with_reducible assumption) | assumption)
                          have q22 : x11_2 < (a2.size : Int) := of_decide_eq_true (by first | (with_reducible assumption) | assumption)
                          have hx22 := bt_at a2 x11_2
                          replace p22 := eq_true p22
                          replace q22 := eq_true q22
                          have p28 : 0 ≤ (x11_2 : Int) := of_decide_eq_true (by first | (with_reducible assumption) | assumption)
                          have q28 : x11_2 < (a2.size : Int) := of_decide_eq_true (by first | (with_reducible assumption) | assumption)
                          have hx28 := bt_at a2 x11_2
                          replace p28 := eq_true p28
                          replace q28 := eq_true q28
                          go_wp2
                          go_roundg k2
                          case measure => have := HJ6.out; have := HK2.out; omega
                          case rel => exact ⟨(x10_2), (wrap64 (x11_2 + 1)), (by first | rfl | (simp; done) | (simp [*]; done)), (by first | rfl | (simp; done) | (simp [*]; done)), H', ⟨by have := HJ6.out; have := HK2.out; omega⟩, ⟨by repeat (first | (with_reducible first | exact HB.out | apply below_alloc | apply pw_below_drewN | apply below_drew1) | exact HB.out)⟩⟩
                  · rw [if_neg c15] at H
                    have c15b0 : decide (97 ≤ (bt a2 x11_2)) = false := decide_eq_false c15
                    clear c15
                    by_cases c35 : (bt a2 x11_2) = 46
                    · rw [if_pos c35] at H
                      have c35b0 : ((bt a2 x11_2) == 46) = true := beq_iff_eq.mpr c35
                      have c35b1 : ((bt a2 x11_2) != 46) = false := bne_eq_false_iff_eq.mpr c35
                      clear c35
                      have c36b0 := eq_true (of_decide_eq_true (by first | (with_reducible assumption) | assumption) : 0 ≤ x11_2)
                      by_cases c37 : x11_2 ≤ (wrap64 (x11_2 + 1))
                      · rw [if_pos c37] at H
                        have c37b0 := eq_true c37
                        have c37b1 : decide (x11_2 ≤ (wrap64 (x11_2 + 1))) = true := decide_eq_true c37
                        by_cases c38 : (wrap64 (x11_2 + 1)) ≤ (a2.size : Int)
                        · rw [if_pos c38] at H
                          have c38b0 := eq_true c38
                          have c38b1 : decide ((wrap64 (x11_2 + 1)) ≤ (a2.size : Int)) = true := decide_eq_true c38
                          by_cases c39 : x10_2.size + (a2.extract (x11_2 : Int).toNat ((wrap64 (x11_2 + 1)) : Int).toNat).size ≤ 9223372036854775807
                          · rw [if_pos c39] at H
                            have c39b0 := eq_true c39
                            have c39b1 : decide (x10_2.size + (a2.extract (x11_2 : Int).toNat ((wrap64 (x11_2 + 1)) : Int).toNat).size ≤ 9223372036854775807) = true := decide_eq_true c39
                            try have c39b2 : (9223372036854775807 < x10_2.size + (a2.extract (x11_2 : Int).toNat ((wrap64 (x11_2 + 1)) : Int).toNat).size) = False := eq_false (Nat.not_lt.2 c39)
                            (try (have c39h := c39; simp only [ByteArray.size_append, ByteArray.size_extract, Int.toNat_natCast, Nat.sub_zero, Nat.min_self, ByteArray.extract_zero_size] at c39h; have c39b7 := eq_false (Nat.not_lt.2 c39h); clear c39h))
                            try have c39b5 : (9223372036854775807 < x10_2.size + (((wrap64 (x11_2 + 1)) : Int).toNat - (x11_2 : Int).toNat)) = False := eq_false (Nat.not_lt.2 (by have h_ := c39; (try have e0_ : (wrap64 (x11_2 + 1)) ≤ (a2.size : Int) := of_decide_eq_true (by first | (with_reducible assumption) | assumption)); simp only [ByteArray.size_append, ByteArray.size_extract] at h_ ⊢; omega))
                            have H' := Aside0.mk H
                            clear H
                            have p14 : 0 ≤ (x11_2 : Int) := of_decide_eq_true (by first | (with_reducible assumption) | assumption)
                            have q14 : x11_2 < (a2.size : Int) := of_decide_eq_true (by first | (with_reducible assumption) | assumption)
                            have hx14 := bt_at a2 x11_2
                            replace p14 := eq_true p14
                            replace q14 := eq_true q14
                            have p34 : 0 ≤ (x11_2 : Int) := of_decide_eq_true (by first | (with_reducible assumption) | assumption)
                            have q34 : x11_2 < (a2.size : Int) := of_decide_eq_true (by first | (with_reducible assumption) | assumption)
                            have hx34 := bt_at a2 x11_2
                            replace p34 := eq_true p34
                            replace q34 := eq_true q34
                            go_wp2
                            go_roundg k2
                            case measure => have := HJ6.out; have := HK2.out; omega
                            case rel => exact ⟨(x10_2 ++ (a2.extract (x11_2 : Int).toNat ((wrap64 (x11_2 + 1)) : Int).toNat)), (wrap64 (x11_2 + 1)), (by first | rfl | (simp; done) | (simp [*]; done)), (by first | rfl | (simp; done) | (simp [*]; done)), H', ⟨by have := HJ6.out; have := HK2.out; omega⟩, ⟨by repeat (first | (with_reducible first | exact HB.out | apply below_alloc | apply pw_below_drewN | apply below_drew1) | exact HB.out)⟩⟩
                          · rw [if_neg c39] at H
                            exact absurd H (by simp)
                        · rw [if_neg c38] at H
                          exact absurd H (by simp)
                      · rw [if_neg c37] at H
                        exact absurd H (by simp)
                    · rw [if_neg c35] at H
                      have c35b0 : ((bt a2 x11_2) == 46) = false := beq_eq_false_iff_ne.mpr c35
                      have c35b1 : ((bt a2 x11_2) != 46) = true := bne_iff_ne.mpr c35
                      by_cases c41 : (bt a2 x11_2) = 45
                      · rw [if_pos c41] at H
                        have c41b0 : ((bt a2 x11_2) == 45) = true := beq_iff_eq.mpr c41
                        have c41b1 : ((bt a2 x11_2) != 45) = false := bne_eq_false_iff_eq.mpr c41
                        clear c41
                        have c42b0 := eq_true (of_decide_eq_true (by first | (with_reducible assumption) | assumption) : 0 ≤ x11_2)
                        by_cases c43 : x11_2 ≤ (wrap64 (x11_2 + 1))
                        · rw [if_pos c43] at H
                          have c43b0 := eq_true c43
                          have c43b1 : decide (x11_2 ≤ (wrap64 (x11_2 + 1))) = true := decide_eq_true c43
                          by_cases c44 : (wrap64 (x11_2 + 1)) ≤ (a2.size : Int)
                          · rw [if_pos c44] at H
                            have c44b0 := eq_true c44
                            have c44b1 : decide ((wrap64 (x11_2 + 1)) ≤ (a2.size : Int)) = true := decide_eq_true c44
                            by_cases c45 : x10_2.size + (a2.extract (x11_2 : Int).toNat ((wrap64 (x11_2 + 1)) : Int).toNat).size ≤ 9223372036854775807
                            · rw [if_pos c45] at H
                              have c45b0 := eq_true c45
                              have c45b1 : decide (x10_2.size + (a2.extract (x11_2 : Int).toNat ((wrap64 (x11_2 + 1)) : Int).toNat).size ≤ 9223372036854775807) = true := decide_eq_true c45
                              try have c45b2 : (9223372036854775807 < x10_2.size + (a2.extract (x11_2 : Int).toNat ((wrap64 (x11_2 + 1)) : Int).toNat).size) = False := eq_false (Nat.not_lt.2 c45)
                              (try (have c45h := c45; simp only [ByteArray.size_append, ByteArray.size_extract, Int.toNat_natCast, Nat.sub_zero, Nat.min_self, ByteArray.extract_zero_size] at c45h; have c45b7 := eq_false (Nat.not_lt.2 c45h); clear c45h))
                              try have c45b5 : (9223372036854775807 < x10_2.size + (((wrap64 (x11_2 + 1)) : Int).toNat - (x11_2 : Int).toNat)) = False := eq_false (Nat.not_lt.2 (by have h_ := c45; (try have e0_ : (wrap64 (x11_2 + 1)) ≤ (a2.size : Int) := of_decide_eq_true (by first | (with_reducible assumption) | assumption)); simp only [ByteArray.size_append, ByteArray.size_extract] at h_ ⊢; omega))
                              have H' := Aside0.mk H
                              clear H
                              have p14 : 0 ≤ (x11_2 : Int) := of_decide_eq_true (by first | (with_reducible assumption) | assumption)
                              have q14 : x11_2 < (a2.size : Int) := of_decide_eq_true (by first | (with_reducible assumption) | assumption)
                              have hx14 := bt_at a2 x11_2
                              replace p14 := eq_true p14
                              replace q14 := eq_true q14
                              have p34 : 0 ≤ (x11_2 : Int) := of_decide_eq_true (by first | (with_reducible assumption) | assumption)
                              have q34 : x11_2 < (a2.size : Int) := of_decide_eq_true (by first | (with_reducible assumption) | assumption)
                              have hx34 := bt_at a2 x11_2
                              replace p34 := eq_true p34
                              replace q34 := eq_true q34
                              have p40 : 0 ≤ (x11_2 : Int) := of_decide_eq_true (by first | (with_reducible assumption) | assumption)
                              have q40 : x11_2 < (a2.size : Int) := of_decide_eq_true (by first | (with_reducible assumption) | assumption)
                              have hx40 := bt_at a2 x11_2
                              replace p40 := eq_true p40
                              replace q40 := eq_true q40
                              go_wp2
                              go_roundg k2
                              case measure => have := HJ6.out; have := HK2.out; omega
                              case rel => exact ⟨(x10_2 ++ (a2.extract (x11_2 : Int).toNat ((wrap64 (x11_2 + 1)) : Int).toNat)), (wrap64 (x11_2 + 1)), (by first | rfl | (simp; done) | (simp [*]; done)), (by first | rfl | (simp; done) | (simp [*]; done)), H', ⟨by have := HJ6.out; have := HK2.out; omega⟩, ⟨by repeat (first | (with_reducible first | exact HB.out | apply below_alloc | apply pw_below_drewN | apply below_drew1) | exact HB.out)⟩⟩
                            · rw [if_neg c45] at H
                              exact absurd H (by simp)
                          · rw [if_neg c44] at H
                            exact absurd H (by simp)
                        · rw [if_neg c43] at H
                          exact absurd H (by simp)
                      · rw [if_neg c41] at H
                        have c41b0 : ((bt a2 x11_2) == 45) = false := beq_eq_false_iff_ne.mpr c41
                        have c41b1 : ((bt a2 x11_2) != 45) = true := bne_iff_ne.mpr c41
                        have H' := Aside0.mk H
                        clear H
                        have p14 : 0 ≤ (x11_2 : Int) := of_decide_eq_true (by first | (with_reducible assumption) | assumption)
                        have q14 : x11_2 < (a2.size : Int) := of_decide_eq_true (by first | (with_reducible assumption) | assumption)
                        have hx14 := bt_at a2 x11_2
                        replace p14 := eq_true p14
                        replace q14 := eq_true q14
                        have p34 : 0 ≤ (x11_2 : Int) := of_decide_eq_true (by first | (with_reducible assumption) | assumption)
                        have q34 : x11_2 < (a2.size : Int) := of_decide_eq_true (by first | (with_reducible assumption) | assumption)
                        have hx34 := bt_at a2 x11_2
                        replace p34 := eq_true p34
                        replace q34 := eq_true q34
                        have p40 : 0 ≤ (x11_2 : Int) := of_decide_eq_true (by first | (with_reducible assumption) | assumption)
                        have q40 : x11_2 < (a2.size : Int) := of_decide_eq_true (by first | (with_reducible assumption) | assumption)
                        have hx40 := bt_at a2 x11_2
                        replace p40 := eq_true p40
                        replace q40 := eq_true q40
                        go_wp2
                        go_roundg k2
                        case measure => have := HJ6.out; have := HK2.out; omega
                        case rel => exact ⟨(x10_2), (wrap64 (x11_2 + 1)), (by first | rfl | (simp; done) | (simp [*]; done)), (by first | rfl | (simp; done) | (simp [*]; done)), H', ⟨by have := HJ6.out; have := HK2.out; omega⟩, ⟨by repeat (first | (with_reducible first | exact HB.out | apply below_alloc | apply pw_below_drewN | apply below_drew1) | exact HB.out)⟩⟩
                · rw [if_neg c13] at H
                  exact absurd H (by simp)
              · rw [if_neg c12] at H
                have c12b0 : decide (x11_2 < (a2.size : Int)) = false := decide_eq_false c12
                clear c12
                have HC46 := Aside0.mk H
                clear H
                go_upto_if 70 with (fail)
                go_cut [12] (fun v12 wc => ∃ (kq : Nat) (x12_45 : List (S27)), Aside0 (letterboxlaw10_AddrBack.j2 kq l0 l1 a3 x10_2 x12_45 = some r) ∧ Aside0 (kq ≤ k2) ∧ Aside0 (Kd.R k27 27 wc w.heap.size (fun _ => True) v12 x12_45) ∧ Aside0 (Below w.heap.size w wc))
                case first =>
                  have H := HC46.out
                  clear HC46
                  by_cases c47 : a3 = true
                  · subst c47
                    have H1 : (if ([] : List (S27)).length < 2513169434916 then (letterboxlaw10_AddrBack.j2 k2 l0 l1 true x10_2 (([] : List (S27)) ++ [(⟨1, (⟨#[103]⟩ : ByteArray), (⟨#[]⟩ : ByteArray), (⟨#[]⟩ : ByteArray)⟩ : S27)])) else (none)) = some r := by rw [if_pos rfl] at H; exact H
                    clear H
                    have H := H1
                    clear H1
                    by_cases c48 : ([] : List (S27)).length < 2513169434916
                    · rw [if_pos c48] at H
                      have LMc48 := Aside0.mk c48
                      clear c48
                      obtain ⟨y218, hy218⟩ : ∃ y_ : List (S27), y_ = (([] : List (S27)) ++ [(⟨1, (⟨#[103]⟩ : ByteArray), (⟨#[]⟩ : ByteArray), (⟨#[]⟩ : ByteArray)⟩ : S27)]) := ⟨_, rfl⟩
                      replace H : (letterboxlaw10_AddrBack.j2 k2 l0 l1 true x10_2 y218) = some r := by first | (rw [hy218]; with_reducible exact H) | (have H2_ := (Option.bind_some _ _).symm.trans H; rw [hy218]; with_reducible exact H2_) | (have H2_ := (Option.bind_some _ _).symm.trans H; with_reducible exact H2_) | with_reducible exact H | (rw [hy218]; exact H) | exact H
                      have Ny218 := Aside0.mk hy218
                      clear hy218
                      have H' := Aside0.mk H
                      clear H
                      go_wp2_with (first | ((with_reducible refine gate_builtin (b := .append) (xs := #[.tmp 71, .tmp 73]) rfl ?_); (try (refine gate_guard (by rfl) ?_; dsimp only)); at_builtin; refine Kd.R_append k27 (w0 := w) w.heap.size rfl (.tmp 71) (.tmp 73) 23 27 (.agg #[(.int .i64 0), (.string ⟨#[]⟩), (.string ⟨#[]⟩), (.string ⟨#[]⟩)]) 56 rfl Try.underlying23 info27 rfl (by decide) (by omega) (.slice none 0 0) ([] : List (S27)) (⟨1, (⟨#[103]⟩ : ByteArray), (⟨#[]⟩ : ByteArray), (⟨#[]⟩ : ByteArray)⟩ : S27) [.int .i64 1, .string (⟨#[103]⟩ : ByteArray), .string (⟨#[]⟩ : ByteArray), .string (⟨#[]⟩ : ByteArray)] (fun _ => True) (fun _ => False) rfl rfl ?aP (fun _ hk => hk.elim) ?aF ?aO ?aB ?aS ?aL ?_; (case aP => exact k27_mkM _ _ _ (⟨1, (⟨#[103]⟩ : ByteArray), (⟨#[]⟩ : ByteArray), (⟨#[]⟩ : ByteArray)⟩ : S27)); (case aB => exact (by repeat (first | (with_reducible first | exact HB.out | apply below_alloc | apply pw_below_drewN | apply below_drew1) | exact HB.out))); (case aF => exact (fun _ _ => trivial)); (case aO => exact ((Kd.R_nil _ _ _ _ (fun _ => True)))); (case aS => exact (below_size (by repeat (first | (with_reducible first | exact HB.out | apply below_alloc | apply pw_below_drewN | apply below_drew1) | exact HB.out)))); (case aL => have := LMc48.out; omega); intro v219 w49 ho hb hg hat; rw [← Ny218.out] at ho; have n0_ := Aside0.mk (hb); have n1_ := Aside0.mk (ho); clear HB; have HB := n0_; have HO220 := n1_; clear n0_ n1_; clear ho hb hg hat))
                      go_meet
                      case rel => exact ⟨_, (y218), H', ⟨by have := HJ6.out; have := HK2.out; first | omega | exact Nat.le_refl _⟩, ⟨by (with_reducible repeat (first | apply Kd.R_alloc | apply Kd.R_drewN | apply Kd.R_drew)); exact HO220.out⟩, ⟨by repeat (first | (with_reducible first | exact HB.out | apply below_alloc | apply pw_below_drewN | apply below_drew1) | exact HB.out)⟩⟩
                    · rw [if_neg c48] at H
                      exact absurd H (by simp)
                  · replace c47 := Bool.eq_false_iff.mpr c47
                    subst c47
                    have H1 : (letterboxlaw10_AddrBack.j2 k2 l0 l1 false x10_2 ([] : List (S27))) = some r := by rw [if_neg (show ¬ (false = true) by decide)] at H; exact H
                    clear H
                    have H := H1
                    clear H1
                    have H' := Aside0.mk H
                    clear H
                    go_wp2
                    go_meet
                    case rel => exact ⟨_, (([] : List (S27))), H', ⟨by have := HJ6.out; have := HK2.out; first | omega | exact Nat.le_refl _⟩, ⟨by first | exact Kd.R_nil _ _ _ _ _ | exact Kd.N_nil _ _ _ _ _ | exact Kd.V_nil _ _ _ _ _ | exact Kd.Q_nil _ _ _ _ _ | exact Kd.S_nil _ _ _ _ _⟩, ⟨by repeat (first | (with_reducible first | exact HB.out | apply below_alloc | apply pw_below_drewN | apply below_drew1) | exact HB.out)⟩⟩
                case rest =>
                  clear HC46
                  try clear c1
                  try clear p1
                  try clear q1
                  try clear hx1
                  try clear c2
                  try clear p2
                  try clear q2
                  try clear hx2
                  try clear c3
                  try clear p3
                  try clear q3
                  try clear hx3
                  try clear c4
                  try clear p4
                  try clear q4
                  try clear hx4
                  try clear c6
                  try clear p6
                  try clear c7
                  try clear c9
                  try clear c9b0
                  try clear c9b1
                  try clear c10
                  try clear c10b0
                  try clear c10b1
                  try clear c11
                  try clear c12
                  try clear c12b0
                  try clear c13
                  try clear c13b0
                  try clear p14
                  try clear q14
                  try clear hx14
                  try clear c15
                  try clear c15b0
                  try clear p16
                  try clear q16
                  try clear hx16
                  try clear c17
                  try clear c17b0
                  try clear c18
                  try clear c18b0
                  try clear c19
                  try clear c19b0
                  try clear c19b1
                  try clear c20
                  try clear c20b0
                  try clear c20b1
                  try clear c21
                  try clear c21b0
                  try clear c21b1
                  try clear c21b2
                  try clear p22
                  try clear q22
                  try clear hx22
                  try clear c23
                  try clear c23b0
                  try clear c23b1
                  try clear c24
                  try clear c24b0
                  try clear c25
                  try clear c25b0
                  try clear c25b1
                  try clear c26
                  try clear c26b0
                  try clear c26b1
                  try clear c27
                  try clear c27b0
                  try clear c27b1
                  try clear c27b2
                  try clear p28
                  try clear q28
                  try clear hx28
                  try clear c29
                  try clear c29b0
                  try clear c29b1
                  try clear c30
                  try clear c30b0
                  try clear c31
                  try clear c31b0
                  try clear c31b1
                  try clear c32
                  try clear c32b0
                  try clear c32b1
                  try clear c33
                  try clear c33b0
                  try clear c33b1
                  try clear c33b2
                  try clear p34
                  try clear q34
                  try clear hx34
                  try clear c35
                  try clear c35b0
                  try clear c35b1
                  try clear c36
                  try clear c36b0
                  try clear c37
                  try clear c37b0
                  try clear c37b1
                  try clear c38
                  try clear c38b0
                  try clear c38b1
                  try clear c39
                  try clear c39b0
                  try clear c39b1
                  try clear c39b2
                  try clear p40
                  try clear q40
                  try clear hx40
                  try clear c41
                  try clear c41b0
                  try clear c41b1
                  try clear c42
                  try clear c42b0
                  try clear c43
                  try clear c43b0
                  try clear c43b1
                  try clear c44
                  try clear c44b0
                  try clear c44b1
                  try clear c45
                  try clear c45b0
                  try clear c45b1
                  try clear c45b2
                  try clear c47
                  try clear c48
                  try clear p14
                  try clear p16
                  try clear p2
                  try clear p22
                  try clear p28
                  try clear p34
                  try clear p40
                  try clear q14
                  try clear q16
                  try clear q22
                  try clear q28
                  try clear q34
                  try clear q40
                  obtain ⟨kq, x12_45, HA, HJ45, HO_12, HB⟩ := hcut
                  cases kq with
                  | zero => exact absurd HA.out (by simp [letterboxlaw10_AddrBack.j2])
                  | succ kj45 =>
                    have H := HA.out
                    clear HA
                    simp only [letterboxlaw10_AddrBack.j2] at H
                    have H' := Aside0.mk H
                    clear H
                    go_wp2
                    go_loopg [12, 13] kj45 (fun kq v12 v13 w' => ∃ (x12_4 : List (S27)) (x13_4 : Int), v13 = .int .i64 x13_4 ∧ Aside0 (letterboxlaw10_AddrBack.l1 kq l0 l1 a3 x10_2 x12_4 x13_4 = some r) ∧ Aside0 (kq ≤ kj45) ∧ Aside0 (Kd.R k27 27 w' w.heap.size (fun _ => True) v12 x12_4) ∧ Aside0 (Below w.heap.size w w'))
                    case atStart => exact ⟨(x12_45), (0), (by first | rfl | (simp; done) | (simp [*]; done)), H', ⟨Nat.le_refl _⟩, ⟨by (with_reducible repeat (first | apply Kd.R_alloc | apply Kd.R_drewN | apply Kd.R_drew)); exact HO_12.out⟩, ⟨by repeat (first | (with_reducible first | exact HB.out | apply below_alloc | apply pw_below_drewN | apply below_drew1) | exact HB.out)⟩⟩
                    case round =>
                      clear H'
                      try clear c1
                      try clear p1
                      try clear q1
                      try clear hx1
                      try clear c2
                      try clear p2
                      try clear q2
                      try clear hx2
                      try clear c3
                      try clear p3
                      try clear q3
                      try clear hx3
                      try clear c4
                      try clear p4
                      try clear q4
                      try clear hx4
                      try clear c6
                      try clear p6
                      try clear c7
                      try clear c9
                      try clear c9b0
                      try clear c9b1
                      try clear c10
                      try clear c10b0
                      try clear c10b1
                      try clear c11
                      try clear c12
                      try clear c12b0
                      try clear c13
                      try clear c13b0
                      try clear p14
                      try clear q14
                      try clear hx14
                      try clear c15
                      try clear c15b0
                      try clear p16
                      try clear q16
                      try clear hx16
                      try clear c17
                      try clear c17b0
                      try clear c18
                      try clear c18b0
                      try clear c19
                      try clear c19b0
                      try clear c19b1
                      try clear c20
                      try clear c20b0
                      try clear c20b1
                      try clear c21
                      try clear c21b0
                      try clear c21b1
                      try clear c21b2
                      try clear p22
                      try clear q22
                      try clear hx22
                      try clear c23
                      try clear c23b0
                      try clear c23b1
                      try clear c24
                      try clear c24b0
                      try clear c25
                      try clear c25b0
                      try clear c25b1
                      try clear c26
                      try clear c26b0
                      try clear c26b1
                      try clear c27
                      try clear c27b0
                      try clear c27b1
                      try clear c27b2
                      try clear p28
                      try clear q28
                      try clear hx28
                      try clear c29
                      try clear c29b0
                      try clear c29b1
                      try clear c30
                      try clear c30b0
                      try clear c31
                      try clear c31b0
                      try clear c31b1
                      try clear c32
                      try clear c32b0
                      try clear c32b1
                      try clear c33
                      try clear c33b0
                      try clear c33b1
                      try clear c33b2
                      try clear p34
                      try clear q34
                      try clear hx34
                      try clear c35
                      try clear c35b0
                      try clear c35b1
                      try clear c36
                      try clear c36b0
                      try clear c37
                      try clear c37b0
                      try clear c37b1
                      try clear c38
                      try clear c38b0
                      try clear c38b1
                      try clear c39
                      try clear c39b0
                      try clear c39b1
                      try clear c39b2
                      try clear p40
                      try clear q40
                      try clear hx40
                      try clear c41
                      try clear c41b0
                      try clear c41b1
                      try clear c42
                      try clear c42b0
                      try clear c43
                      try clear c43b0
                      try clear c43b1
                      try clear c44
                      try clear c44b0
                      try clear c44b1
                      try clear c45
                      try clear c45b0
                      try clear c45b1
                      try clear c45b2
                      try clear c47
                      try clear c48
                      try clear p1
                      try clear p14
                      try clear p16
                      try clear p2
                      try clear p22
                      try clear p28
                      try clear p3
                      try clear p34
                      try clear p4
                      try clear p40
                      try clear p6
                      try clear q1
                      try clear q14
                      try clear q16
                      try clear q2
                      try clear q22
                      try clear q28
                      try clear q3
                      try clear q34
                      try clear q4
                      try clear q40
                      obtain ⟨x12_4, x13_4, rfl, HA, HK4, HO_12, HB⟩ := hrel
                      cases gk with
                      | zero => exact absurd HA.out (by simp [letterboxlaw10_AddrBack.l1])
                      | succ k4 =>
                        have H := HA.out
                        clear HA
                        simp only [letterboxlaw10_AddrBack.l1] at H
                        by_cases c50 : x13_4 < (l0.length : Int)
                        · rw [if_pos c50] at H
                          have c50b0 : decide (x13_4 < (l0.length : Int)) = true := decide_eq_true c50
                          clear c50
                          by_cases c51 : 0 ≤ x13_4
                          · rw [if_pos c51] at H
                            have c51b0 : decide (0 ≤ x13_4) = true := decide_eq_true c51
                            clear c51
                            by_cases c52 : ((rdOf ByteArray.empty l0 x13_4).size : Int) > 50
                            · rw [if_pos c52] at H
                              have c52b0 : decide (50 < ((rdOf ByteArray.empty l0 x13_4).size : Int)) = true := decide_eq_true c52
                              have c52b1 : decide (50 < (rdOf ByteArray.empty l0 x13_4).size) = true := decide_eq_true (by omega)
                              clear c52
                              obtain rfl := Option.some.inj H
                              have p221 : 0 ≤ (x13_4 : Int) := of_decide_eq_true (by first | (with_reducible assumption) | assumption)
                              have q221 : x13_4 < (l0.length : Int) := of_decide_eq_true (by first | (with_reducible assumption) | assumption)
                              obtain ⟨ad221, e221, hx221_0⟩ := Kd.at_string HR0.out x13_4 p221 q221
                              cases e221
                              replace hx221_0 := (HB.out.cell (World.block_lt_of_cell? w _ hx221_0)).trans hx221_0
                              replace p221 := eq_true p221
                              replace q221 := eq_true q221
                              go_wp2
                              go_ret
                              exact ⟨by first | rfl | (simp [errW_none, errW_some] <;> rfl) | (simp [*, errW_none, errW_some] <;> rfl), by repeat (first | (with_reducible first | exact HB.out | apply below_alloc | apply pw_below_drewN | apply below_drew1) | exact HB.out)⟩
                            · rw [if_neg c52] at H
                              have c52b0 : decide (50 < ((rdOf ByteArray.empty l0 x13_4).size : Int)) = false := decide_eq_false c52
                              have c52b1 : decide (50 < (rdOf ByteArray.empty l0 x13_4).size) = false := decide_eq_false (by omega)
                              clear c52
                              by_cases c53 : x13_4 < (l1.length : Int)
                              · rw [if_pos c53] at H
                                have c53b0 : decide (x13_4 < (l1.length : Int)) = true := decide_eq_true c53
                                clear c53
                                by_cases c54 : ((rdOf ByteArray.empty l1 x13_4).size : Int) > 50
                                · rw [if_pos c54] at H
                                  have c54b0 : decide (50 < ((rdOf ByteArray.empty l1 x13_4).size : Int)) = true := decide_eq_true c54
                                  have c54b1 : decide (50 < (rdOf ByteArray.empty l1 x13_4).size) = true := decide_eq_true (by omega)
                                  clear c54
                                  obtain rfl := Option.some.inj H
                                  have p221 : 0 ≤ (x13_4 : Int) := of_decide_eq_true (by first | (with_reducible assumption) | assumption)
                                  have q221 : x13_4 < (l0.length : Int) := of_decide_eq_true (by first | (with_reducible assumption) | assumption)
                                  obtain ⟨ad221, e221, hx221_0⟩ := Kd.at_string HR0.out x13_4 p221 q221
                                  cases e221
                                  replace hx221_0 := (HB.out.cell (World.block_lt_of_cell? w _ hx221_0)).trans hx221_0
                                  replace p221 := eq_true p221
                                  replace q221 := eq_true q221
                                  have p222 : 0 ≤ (x13_4 : Int) := of_decide_eq_true (by first | (with_reducible assumption) | assumption)
                                  have q222 : x13_4 < (l1.length : Int) := of_decide_eq_true (by first | (with_reducible assumption) | assumption)
                                  obtain ⟨ad222, e222, hx222_0⟩ := Kd.at_string HR1.out x13_4 p222 q222
                                  cases e222
                                  replace hx222_0 := (HB.out.cell (World.block_lt_of_cell? w _ hx222_0)).trans hx222_0
                                  replace p222 := eq_true p222
                                  replace q222 := eq_true q222
                                  go_wp2
                                  go_ret
                                  exact ⟨by first | rfl | (simp [errW_none, errW_some] <;> rfl) | (simp [*, errW_none, errW_some] <;> rfl), by repeat (first | (with_reducible first | exact HB.out | apply below_alloc | apply pw_below_drewN | apply below_drew1) | exact HB.out)⟩
                                · rw [if_neg c54] at H
                                  have c54b0 : decide (50 < ((rdOf ByteArray.empty l1 x13_4).size : Int)) = false := decide_eq_false c54
                                  have c54b1 : decide (50 < (rdOf ByteArray.empty l1 x13_4).size) = false := decide_eq_false (by omega)
                                  clear c54
                                  by_cases c55 : x12_4.length < 2513169434916
                                  · rw [if_pos c55] at H
                                    have LMc55 := Aside0.mk c55
                                    clear c55
                                    obtain ⟨y225, hy225⟩ : ∃ y_ : List (S27), y_ = (x12_4 ++ [(⟨0, rdOf ByteArray.empty l0 x13_4, rdOf ByteArray.empty l1 x13_4, x10_2⟩ : S27)]) := ⟨_, rfl⟩
                                    replace H : (letterboxlaw10_AddrBack.l1 k4 l0 l1 a3 x10_2 y225 (wrap64 (x13_4 + 1))) = some r := by first | (rw [hy225]; with_reducible exact H) | (have H2_ := (Option.bind_some _ _).symm.trans H; rw [hy225]; with_reducible exact H2_) | (have H2_ := (Option.bind_some _ _).symm.trans H; with_reducible exact H2_) | with_reducible exact H | (rw [hy225]; exact H) | exact H
                                    have Ny225 := Aside0.mk hy225
                                    clear hy225
                                    have H' := Aside0.mk H
                                    clear H
                                    have p221 : 0 ≤ (x13_4 : Int) := of_decide_eq_true (by first | (with_reducible assumption) | assumption)
                                    have q221 : x13_4 < (l0.length : Int) := of_decide_eq_true (by first | (with_reducible assumption) | assumption)
                                    obtain ⟨ad221, e221, hx221_0⟩ := Kd.at_string HR0.out x13_4 p221 q221
                                    cases e221
                                    replace hx221_0 := (HB.out.cell (World.block_lt_of_cell? w _ hx221_0)).trans hx221_0
                                    replace p221 := eq_true p221
                                    replace q221 := eq_true q221
                                    have p222 : 0 ≤ (x13_4 : Int) := of_decide_eq_true (by first | (with_reducible assumption) | assumption)
                                    have q222 : x13_4 < (l1.length : Int) := of_decide_eq_true (by first | (with_reducible assumption) | assumption)
                                    obtain ⟨ad222, e222, hx222_0⟩ := Kd.at_string HR1.out x13_4 p222 q222
                                    cases e222
                                    replace hx222_0 := (HB.out.cell (World.block_lt_of_cell? w _ hx222_0)).trans hx222_0
                                    replace p222 := eq_true p222
                                    replace q222 := eq_true q222
                                    try go_wp2
                                    have n0_ := Aside0.mk (Kd.R_drew HO_12.out)
                                    have n1_ := Aside0.mk (below_drew1 HB.out)
                                    clear HO_12
                                    clear HB
                                    have HO_12 := n0_
                                    have HB := n1_
                                    clear n0_ n1_
                                    have p223 : 0 ≤ (x13_4 : Int) := of_decide_eq_true (by first | (with_reducible assumption) | assumption)
                                    have q223 : x13_4 < (l0.length : Int) := of_decide_eq_true (by first | (with_reducible assumption) | assumption)
                                    obtain ⟨ad223, e223, hx223_0⟩ := Kd.at_string HR0.out x13_4 p223 q223
                                    have hw223_0 := hx223_0
                                    obtain rfl : ad221 = ad223 := (by injection e223)
                                    replace hx223_0 := (HB.out.cell (World.block_lt_of_cell? w _ hx223_0)).trans hx223_0
                                    replace p223 := eq_true p223
                                    replace q223 := eq_true q223
                                    have p224 : 0 ≤ (x13_4 : Int) := of_decide_eq_true (by first | (with_reducible assumption) | assumption)
                                    have q224 : x13_4 < (l1.length : Int) := of_decide_eq_true (by first | (with_reducible assumption) | assumption)
                                    obtain ⟨ad224, e224, hx224_0⟩ := Kd.at_string HR1.out x13_4 p224 q224
                                    have hw224_0 := hx224_0
                                    obtain rfl : ad222 = ad224 := (by injection e224)
                                    replace hx224_0 := (HB.out.cell (World.block_lt_of_cell? w _ hx224_0)).trans hx224_0
                                    replace p224 := eq_true p224
                                    replace q224 := eq_true q224
                                    refine start_ (n := 14) (S := fun w' => w'.cell? (ad221.add (x13_4).toNat) = some (.string (rdOf ByteArray.empty l0 x13_4)) ∧ w'.cell? (ad222.add (x13_4).toNat) = some (.string (rdOf ByteArray.empty l1 x13_4))) (ds := []) #[false, false, false, false, false, false, false, false, false, false, false, false, false, false] (by kernel_rfl) rfl rfl ⟨((HB.out.cell (World.block_lt_of_cell? w _ hw223_0)).trans hw223_0), ((HB.out.cell (World.block_lt_of_cell? w _ hw224_0)).trans hw224_0)⟩ (fun hHeld => ?_); refine with_tabW letterboxlaw10_AddrBack.tab20 letterboxlaw10_AddrBack.bits20 (fun HT_ HW_ => ?_)
                                    generalize wr.drew = w56 at HO_12 HB hx223_0 hx224_0 hHeld ⊢
                                    refine pure_ (i := 0) (N := some 95) (v := ?_) (a' := ?_) #[true, false, false, false, false, false, false, false, false, false, false, false, false, false] rfl rfl (any_of HT_.out (by kernel_rfl)) (fun _ _ _ h => h) (Or.inl ⟨by rfl, ?_⟩) ?_ ?_
                                    rotate_left
                                    · intro w'
                                      go_simp
                                      with_reducible rfl
                                    rotate_left
                                    · simp only [Act.put, List.setIfInBounds_toArray, List.set_cons_zero, List.set_cons_succ, i64_w, i32_w]
                                      rfl
                                    refine pure_ (i := 1) (N := some 96) (v := ?_) (a' := ?_) #[true, true, false, false, false, false, false, false, false, false, false, false, false, false] rfl rfl (any_of HT_.out (by kernel_rfl)) (fun _ _ _ h => h) (Or.inl ⟨by rfl, ?_⟩) ?_ ?_
                                    rotate_left
                                    · intro w'
                                      go_simp
                                      with_reducible rfl
                                    rotate_left
                                    · simp only [Act.put, List.setIfInBounds_toArray, List.set_cons_zero, List.set_cons_succ, i64_w, i32_w]
                                      rfl
                                    refine pure_ (i := 2) (N := some 97) (v := ?_) (a' := ?_) #[true, true, true, false, false, false, false, false, false, false, false, false, false, false] rfl rfl (any_of HT_.out (by kernel_rfl)) (fun _ _ _ h => h) (Or.inl ⟨by rfl, ?_⟩) ?_ ?_
                                    rotate_left
                                    · intro w'
                                      go_simp
                                      with_reducible rfl
                                    rotate_left
                                    · simp only [Act.put, List.setIfInBounds_toArray, List.set_cons_zero, List.set_cons_succ, i64_w, i32_w]
                                      rfl
                                    refine pure_ (i := 3) (N := some 98) (v := ?_) (a' := ?_) #[true, true, true, true, false, false, false, false, false, false, false, false, false, false] rfl rfl (any_of HT_.out (by kernel_rfl)) (fun _ _ _ h => h) (Or.inl ⟨by rfl, ?_⟩) ?_ ?_
                                    rotate_left
                                    · intro w'
                                      go_simp
                                      with_reducible rfl
                                    rotate_left
                                    · simp only [Act.put, List.setIfInBounds_toArray, List.set_cons_zero, List.set_cons_succ, i64_w, i32_w]
                                      rfl
                                    refine pure_ (i := 5) (N := some 100) (v := ?_) (a' := ?_) #[true, true, true, true, false, true, false, false, false, false, false, false, false, false] rfl rfl (any_of HT_.out (by kernel_rfl)) (fun _ _ _ h => h) (Or.inl ⟨by rfl, ?_⟩) ?_ ?_
                                    rotate_left
                                    · intro w'
                                      go_simp
                                      with_reducible rfl
                                    rotate_left
                                    · simp only [Act.put, List.setIfInBounds_toArray, List.set_cons_zero, List.set_cons_succ, i64_w, i32_w]
                                      rfl
                                    refine pure_ (i := 6) (N := some 101) (v := ?_) (a' := ?_) #[true, true, true, true, false, true, true, false, false, false, false, false, false, false] rfl rfl (any_of HT_.out (by kernel_rfl)) (fun _ _ _ h => h) (Or.inl ⟨by rfl, ?_⟩) ?_ ?_
                                    rotate_left
                                    · intro w'
                                      go_simp
                                      with_reducible rfl
                                    rotate_left
                                    · simp only [Act.put, List.setIfInBounds_toArray, List.set_cons_zero, List.set_cons_succ, i64_w, i32_w]
                                      rfl
                                    refine pure_ (i := 7) (N := some 102) (v := ?_) (a' := ?_) #[true, true, true, true, false, true, true, true, false, false, false, false, false, false] rfl rfl (any_of HT_.out (by kernel_rfl)) (fun _ _ _ h => h) (Or.inl ⟨by rfl, ?_⟩) ?_ ?_
                                    rotate_left
                                    · intro w'
                                      go_simp
                                      with_reducible rfl
                                    rotate_left
                                    · simp only [Act.put, List.setIfInBounds_toArray, List.set_cons_zero, List.set_cons_succ, i64_w, i32_w]
                                      rfl
                                    refine pure_ (i := 9) (N := some 104) (v := ?_) (a' := ?_) #[true, true, true, true, false, true, true, true, false, true, false, false, false, false] rfl rfl (any_of HT_.out (by kernel_rfl)) (fun _ _ _ h => h) (Or.inl ⟨by rfl, ?_⟩) ?_ ?_
                                    rotate_left
                                    · intro w'
                                      go_simp
                                      with_reducible rfl
                                    rotate_left
                                    · simp only [Act.put, List.setIfInBounds_toArray, List.set_cons_zero, List.set_cons_succ, i64_w, i32_w]
                                      rfl
                                    refine take_ (i := 4) (N := some 99) (v := ?_) (a' := ?_) #[true, true, true, true, true, true, true, true, false, true, false, false, false, false] rfl rfl (take_ofW HT_.out HW_.out (by kernel_rfl)) (fun _ _ _ h => h) (Or.inl ⟨by rfl, ?_⟩) hHeld ?_ ?_
                                    rotate_left
                                    · rintro w' ⟨s0, s1⟩
                                      go_simp
                                      with_reducible rfl
                                    rotate_left
                                    · simp only [Act.put, List.setIfInBounds_toArray, List.set_cons_zero, List.set_cons_succ, i64_w, i32_w]
                                      rfl
                                    refine take_ (i := 8) (N := some 103) (v := ?_) (a' := ?_) #[true, true, true, true, true, true, true, true, true, true, false, false, false, false] rfl rfl (take_ofW HT_.out HW_.out (by kernel_rfl)) (fun _ _ _ h => h) (Or.inl ⟨by rfl, ?_⟩) hHeld ?_ ?_
                                    rotate_left
                                    · rintro w' ⟨s0, s1⟩
                                      go_simp
                                      with_reducible rfl
                                    rotate_left
                                    · simp only [Act.put, List.setIfInBounds_toArray, List.set_cons_zero, List.set_cons_succ, i64_w, i32_w]
                                      rfl
                                    refine pure_ (i := 10) (N := some 105) (v := ?_) (a' := ?_) #[true, true, true, true, true, true, true, true, true, true, true, false, false, false] rfl rfl (any_of HT_.out (by kernel_rfl)) (fun _ _ _ h => h) (Or.inl ⟨by rfl, ?_⟩) ?_ ?_
                                    rotate_left
                                    · intro w'
                                      go_simp
                                      with_reducible rfl
                                    rotate_left
                                    · simp only [Act.put, List.setIfInBounds_toArray, List.set_cons_zero, List.set_cons_succ, i64_w, i32_w]
                                      rfl
                                    refine one_ (i := 11) (N := some 106) #[true, true, true, true, true, true, true, true, true, true, true, true, false, false] rfl rfl (one_of HT_.out (by kernel_rfl)) (by decide) (fun K hK => ?_)
                                    refine value_ (w1 := ?_) (v := ?_) (by rfl) rfl ?_ ?_
                                    rotate_left 2
                                    · go_simp
                                      constructor
                                      · rfl
                                      · rfl
                                    refine hK.out _ _ ⟨(World.cell?_alloc_lt _ _ _ (World.block_lt_of_cell? _ _ (((HB.out.cell (World.block_lt_of_cell? w _ hw223_0)).trans hw223_0)))).trans (((HB.out.cell (World.block_lt_of_cell? w _ hw223_0)).trans hw223_0)), (World.cell?_alloc_lt _ _ _ (World.block_lt_of_cell? _ _ (((HB.out.cell (World.block_lt_of_cell? w _ hw224_0)).trans hw224_0)))).trans (((HB.out.cell (World.block_lt_of_cell? w _ hw224_0)).trans hw224_0))⟩ (fun hHeld => ?_)
                                    clear hK K
                                    refine norm_ (a' := ?_) ?_ ?_
                                    rotate_left
                                    · show Act.put _ (some 106) _ = _
                                      simp only [Act.put, List.setIfInBounds_toArray, List.set_cons_zero, List.set_cons_succ, i64_w, i32_w]
                                      rfl
                                    refine one_ (i := 12) (N := some 107) #[true, true, true, true, true, true, true, true, true, true, true, true, true, false] rfl rfl (one_of HT_.out (by kernel_rfl)) (by decide) (fun K hK => ?_)
                                    refine Kd.R_append_step k27 (w0 := w) w.heap.size (by rfl) (.tmp 95) (.tmp 106) 23 27 (.agg #[(.int .i64 0), (.string ⟨#[]⟩), (.string ⟨#[]⟩), (.string ⟨#[]⟩)]) 56 rfl Try.underlying23 info27 rfl (by decide) (by omega) u12 x12_4 (⟨0, rdOf ByteArray.empty l0 x13_4, rdOf ByteArray.empty l1 x13_4, x10_2⟩ : S27) [.int .i64 0, .string (rdOf ByteArray.empty l0 x13_4), .string (rdOf ByteArray.empty l1 x13_4), .string x10_2] (fun _ => True) (fun _ => False) rfl rfl ?aP (fun _ hk => hk.elim) ?aF ?aO ?aB ?aS ?aL ?_
                                    (case aP => exact k27_mkM _ _ _ (⟨0, rdOf ByteArray.empty l0 x13_4, rdOf ByteArray.empty l1 x13_4, x10_2⟩ : S27))
                                    (case aB => exact (by repeat (first | (with_reducible first | exact HB.out | apply below_alloc | apply pw_below_drewN | apply below_drew1) | exact HB.out)))
                                    (case aF => exact (fun _ _ => trivial))
                                    (case aO => exact (by (with_reducible repeat (first | apply Kd.R_alloc | apply Kd.R_drewN | apply Kd.R_drew)); exact HO_12.out))
                                    (case aS => exact (below_size (by repeat (first | (with_reducible first | exact HB.out | apply below_alloc | apply pw_below_drewN | apply below_drew1) | exact HB.out))))
                                    (case aL => have := LMc55.out; omega)
                                    intro v226 w57 ho hb hg hat
                                    rw [← Ny225.out] at ho
                                    have n0_ := Aside0.mk (hb)
                                    have n1_ := Aside0.mk (ho)
                                    clear HB
                                    clear HO_12
                                    have HB := n0_
                                    have HO227 := n1_
                                    clear n0_ n1_
                                    clear ho hb hg hat
                                    refine hK.out _ _ ⟨((HB.out.cell (World.block_lt_of_cell? w _ hw223_0)).trans hw223_0), ((HB.out.cell (World.block_lt_of_cell? w _ hw224_0)).trans hw224_0)⟩ (fun hHeld => ?_)
                                    clear hK K
                                    refine norm_ (a' := ?_) ?_ ?_
                                    rotate_left
                                    · show Act.put _ (some 107) _ = _
                                      simp only [Act.put, List.setIfInBounds_toArray, List.set_cons_zero, List.set_cons_succ, i64_w, i32_w]
                                      rfl
                                    refine pure_ (i := 13) (N := some 12) (v := ?_) (a' := ?_) #[true, true, true, true, true, true, true, true, true, true, true, true, true, true] rfl rfl (any_of HT_.out (by kernel_rfl)) (fun _ _ _ h => h) (Or.inl ⟨by rfl, ?_⟩) ?_ ?_
                                    rotate_left
                                    · intro w'
                                      go_simp
                                      with_reducible rfl
                                    rotate_left
                                    · simp only [Act.put, List.setIfInBounds_toArray, List.set_cons_zero, List.set_cons_succ, i64_w, i32_w]
                                      rfl
                                    refine done_ (done_of HT_.out (by kernel_rfl)) ?_
                                    try go_wp2
                                    go_roundg k4
                                    case measure => have := HJ6.out; have := HK2.out; have := HJ45.out; have := HK4.out; omega
                                    case rel => exact ⟨(y225), (wrap64 (x13_4 + 1)), (by first | rfl | (simp; done) | (simp [*]; done)), H', ⟨by have := HJ6.out; have := HK2.out; have := HJ45.out; have := HK4.out; omega⟩, ⟨by (with_reducible repeat (first | apply Kd.R_alloc | apply Kd.R_drewN | apply Kd.R_drew)); exact HO227.out⟩, ⟨by repeat (first | (with_reducible first | exact HB.out | apply below_alloc | apply pw_below_drewN | apply below_drew1) | exact HB.out)⟩⟩
                                  · rw [if_neg c55] at H
                                    exact absurd H (by simp)
                              · rw [if_neg c53] at H
                                exact absurd H (by simp)
                          · rw [if_neg c51] at H
                            exact absurd H (by simp)
                        · rw [if_neg c50] at H
                          have c50b0 : decide (x13_4 < (l0.length : Int)) = false := decide_eq_false c50
                          clear c50
                          have HC58 := Aside0.mk H
                          clear H
                          go_upto_if 108 with (fail)
                          go_cut [12] (fun v12 wc => ∃ (kq : Nat) (x12_57 : List (S27)), Aside0 (letterboxlaw10_AddrBack.j4 kq x12_57 = some r) ∧ Aside0 (kq ≤ k4) ∧ Aside0 (Kd.R k27 27 wc w.heap.size (fun _ => True) v12 x12_57) ∧ Aside0 (Below w.heap.size w wc))
                          case first =>
                            have H := HC58.out
                            clear HC58
                            by_cases c59 : a3 = true
                            · subst c59
                              have H1 : (if x12_4.length < 2513169434916 then (letterboxlaw10_AddrBack.j4 k4 (x12_4 ++ [(⟨2, (⟨#[]⟩ : ByteArray), (⟨#[]⟩ : ByteArray), (⟨#[]⟩ : ByteArray)⟩ : S27)])) else (none)) = some r := by rw [if_pos rfl] at H; exact H
                              clear H
                              have H := H1
                              clear H1
                              by_cases c60 : x12_4.length < 2513169434916
                              · rw [if_pos c60] at H
                                have LMc60 := Aside0.mk c60
                                clear c60
                                obtain ⟨y228, hy228⟩ : ∃ y_ : List (S27), y_ = (x12_4 ++ [(⟨2, (⟨#[]⟩ : ByteArray), (⟨#[]⟩ : ByteArray), (⟨#[]⟩ : ByteArray)⟩ : S27)]) := ⟨_, rfl⟩
                                replace H : (letterboxlaw10_AddrBack.j4 k4 y228) = some r := by first | (rw [hy228]; with_reducible exact H) | (have H2_ := (Option.bind_some _ _).symm.trans H; rw [hy228]; with_reducible exact H2_) | (have H2_ := (Option.bind_some _ _).symm.trans H; with_reducible exact H2_) | with_reducible exact H | (rw [hy228]; exact H) | exact H
                                have Ny228 := Aside0.mk hy228
                                clear hy228
                                have H' := Aside0.mk H
                                clear H
                                go_wp2_with (first | ((with_reducible refine gate_builtin (b := .append) (xs := #[.tmp 109, .tmp 111]) rfl ?_); (try (refine gate_guard (by rfl) ?_; dsimp only)); at_builtin; refine Kd.R_append k27 (w0 := w) w.heap.size rfl (.tmp 109) (.tmp 111) 23 27 (.agg #[(.int .i64 0), (.string ⟨#[]⟩), (.string ⟨#[]⟩), (.string ⟨#[]⟩)]) 56 rfl Try.underlying23 info27 rfl (by decide) (by omega) u12 x12_4 (⟨2, (⟨#[]⟩ : ByteArray), (⟨#[]⟩ : ByteArray), (⟨#[]⟩ : ByteArray)⟩ : S27) [.int .i64 2, .string (⟨#[]⟩ : ByteArray), .string (⟨#[]⟩ : ByteArray), .string (⟨#[]⟩ : ByteArray)] (fun _ => True) (fun _ => False) rfl rfl ?aP (fun _ hk => hk.elim) ?aF ?aO ?aB ?aS ?aL ?_; (case aP => exact k27_mkM _ _ _ (⟨2, (⟨#[]⟩ : ByteArray), (⟨#[]⟩ : ByteArray), (⟨#[]⟩ : ByteArray)⟩ : S27)); (case aB => exact (by repeat (first | (with_reducible first | exact HB.out | apply below_alloc | apply pw_below_drewN | apply below_drew1) | exact HB.out))); (case aF => exact (fun _ _ => trivial)); (case aO => exact (by (with_reducible repeat (first | apply Kd.R_alloc | apply Kd.R_drewN | apply Kd.R_drew)); exact HO_12.out)); (case aS => exact (below_size (by repeat (first | (with_reducible first | exact HB.out | apply below_alloc | apply pw_below_drewN | apply below_drew1) | exact HB.out)))); (case aL => have := LMc60.out; omega); intro v229 w61 ho hb hg hat; rw [← Ny228.out] at ho; have n0_ := Aside0.mk (hb); have n1_ := Aside0.mk (ho); clear HB; clear HO_12; have HB := n0_; have HO230 := n1_; clear n0_ n1_; clear ho hb hg hat))
                                go_meet
                                case rel => exact ⟨_, (y228), H', ⟨by have := HJ6.out; have := HK2.out; have := HJ45.out; have := HK4.out; first | omega | exact Nat.le_refl _⟩, ⟨by (with_reducible repeat (first | apply Kd.R_alloc | apply Kd.R_drewN | apply Kd.R_drew)); exact HO230.out⟩, ⟨by repeat (first | (with_reducible first | exact HB.out | apply below_alloc | apply pw_below_drewN | apply below_drew1) | exact HB.out)⟩⟩
                              · rw [if_neg c60] at H
                                exact absurd H (by simp)
                            · replace c59 := Bool.eq_false_iff.mpr c59
                              subst c59
                              have H1 : (letterboxlaw10_AddrBack.j4 k4 x12_4) = some r := by rw [if_neg (show ¬ (false = true) by decide)] at H; exact H
                              clear H
                              have H := H1
                              clear H1
                              have H' := Aside0.mk H
                              clear H
                              go_wp2
                              go_meet
                              case rel => exact ⟨_, (x12_4), H', ⟨by have := HJ6.out; have := HK2.out; have := HJ45.out; have := HK4.out; first | omega | exact Nat.le_refl _⟩, ⟨by (with_reducible repeat (first | apply Kd.R_alloc | apply Kd.R_drewN | apply Kd.R_drew)); exact HO_12.out⟩, ⟨by repeat (first | (with_reducible first | exact HB.out | apply below_alloc | apply pw_below_drewN | apply below_drew1) | exact HB.out)⟩⟩
                          case rest =>
                            clear HC58
                            try clear c1
                            try clear p1
                            try clear q1
                            try clear hx1
                            try clear c2
                            try clear p2
                            try clear q2
                            try clear hx2
                            try clear c3
                            try clear p3
                            try clear q3
                            try clear hx3
                            try clear c4
                            try clear p4
                            try clear q4
                            try clear hx4
                            try clear c5
                            try clear c6
                            try clear p6
                            try clear c7
                            try clear c9
                            try clear c9b0
                            try clear c9b1
                            try clear c10
                            try clear c10b0
                            try clear c10b1
                            try clear c11
                            try clear c12
                            try clear c12b0
                            try clear c13
                            try clear c13b0
                            try clear p14
                            try clear q14
                            try clear hx14
                            try clear c15
                            try clear c15b0
                            try clear p16
                            try clear q16
                            try clear hx16
                            try clear c17
                            try clear c17b0
                            try clear c18
                            try clear c18b0
                            try clear c19
                            try clear c19b0
                            try clear c19b1
                            try clear c20
                            try clear c20b0
                            try clear c20b1
                            try clear c21
                            try clear c21b0
                            try clear c21b1
                            try clear c21b2
                            try clear p22
                            try clear q22
                            try clear hx22
                            try clear c23
                            try clear c23b0
                            try clear c23b1
                            try clear c24
                            try clear c24b0
                            try clear c25
                            try clear c25b0
                            try clear c25b1
                            try clear c26
                            try clear c26b0
                            try clear c26b1
                            try clear c27
                            try clear c27b0
                            try clear c27b1
                            try clear c27b2
                            try clear p28
                            try clear q28
                            try clear hx28
                            try clear c29
                            try clear c29b0
                            try clear c29b1
                            try clear c30
                            try clear c30b0
                            try clear c31
                            try clear c31b0
                            try clear c31b1
                            try clear c32
                            try clear c32b0
                            try clear c32b1
                            try clear c33
                            try clear c33b0
                            try clear c33b1
                            try clear c33b2
                            try clear p34
                            try clear q34
                            try clear hx34
                            try clear c35
                            try clear c35b0
                            try clear c35b1
                            try clear c36
                            try clear c36b0
                            try clear c37
                            try clear c37b0
                            try clear c37b1
                            try clear c38
                            try clear c38b0
                            try clear c38b1
                            try clear c39
                            try clear c39b0
                            try clear c39b1
                            try clear c39b2
                            try clear p40
                            try clear q40
                            try clear hx40
                            try clear c41
                            try clear c41b0
                            try clear c41b1
                            try clear c42
                            try clear c42b0
                            try clear c43
                            try clear c43b0
                            try clear c43b1
                            try clear c44
                            try clear c44b0
                            try clear c44b1
                            try clear c45
                            try clear c45b0
                            try clear c45b1
                            try clear c45b2
                            try clear c47
                            try clear c48
                            try clear c50
                            try clear c50b0
                            try clear c51
                            try clear c51b0
                            try clear c52
                            try clear c52b0
                            try clear c52b1
                            try clear c53
                            try clear c53b0
                            try clear c54
                            try clear c54b0
                            try clear c54b1
                            try clear c55
                            try clear c59
                            try clear c60
                            try clear hx221_0
                            try clear hx222_0
                            try clear hx223_0
                            try clear hx224_0
                            try clear p1
                            try clear p14
                            try clear p16
                            try clear p2
                            try clear p22
                            try clear p221
                            try clear p222
                            try clear p223
                            try clear p224
                            try clear p28
                            try clear p3
                            try clear p34
                            try clear p4
                            try clear p40
                            try clear p6
                            try clear q1
                            try clear q14
                            try clear q16
                            try clear q2
                            try clear q22
                            try clear q221
                            try clear q222
                            try clear q223
                            try clear q224
                            try clear q28
                            try clear q3
                            try clear q34
                            try clear q4
                            try clear q40
                            obtain ⟨kq, x12_57, HA, HJ57, HO_12, HB⟩ := hcut
                            cases kq with
                            | zero => exact absurd HA.out (by simp [letterboxlaw10_AddrBack.j4])
                            | succ kj57 =>
                              have H := HA.out
                              clear HA
                              simp only [letterboxlaw10_AddrBack.j4] at H
                              replace H := Option.bind_eq_some_iff.mp H
                              obtain ⟨t231, A620, H⟩ := H
                              replace H : ((addr_List.f kj57 t231).bind fun bt232 => (if bt232.2 = true then (letterboxlaw10_AddrBack.j5 kj57 x12_57 bt232.1 ((bt232.1.length : Int) != (x12_57.length : Int))) else (letterboxlaw10_AddrBack.j5 kj57 x12_57 bt232.1 true))) = some r := H
                              have A62 := Aside0.mk A620
                              clear A620
                              replace H := Option.bind_eq_some_iff.mp H
                              obtain ⟨⟨t232, t233⟩, A630, H⟩ := H
                              replace H : (if t233 = true then (letterboxlaw10_AddrBack.j5 kj57 x12_57 t232 ((t232.length : Int) != (x12_57.length : Int))) else (letterboxlaw10_AddrBack.j5 kj57 x12_57 t232 true)) = some r := H
                              have A63 := Aside0.mk A630
                              clear A630
                              have HC64 := Aside0.mk H
                              clear H
                              obtain ⟨Ao65, co65, eo65⟩ := Kd.R_slice HO_12.out
                              subst eo65
                              go_upto_region 24 with (first | ((with_reducible refine gate_callee (f := 9) rfl ?_); refine goesL_ (some 115) rfl rfl Try.func9 (by kernel_rfl) rfl #[.slice Ao65 x12_57.length co65] rfl (by (try simp only [List.map_toArray, List.map_cons, List.map_nil]); first | done | rfl | (simp only [List.length_drop, List.length_take]; rfl)) ?_; (with_reducible refine (addr_Text.calls kj57 _ _ x12_57 t231 _ ?side1 ?side2 A62.out).mono ?_); (case side1 => repeat (first | exact (Kd.R_reads' HO_12.out).2.2 | (with_reducible refine Kd.C_alloc ?_ _) | (with_reducible refine Kd.C_drewN ?_ _) | (with_reducible refine Kd.C_drew ?_))); (case side2 => exact (Kd.R_reads' HO_12.out).2.1); rintro e w66 ⟨rfl, hb⟩; refine ⟨_, rfl, ?_⟩; have n0_ := Aside0.mk (Kd.R_below (by (with_reducible repeat (first | apply Kd.R_alloc | apply Kd.R_drewN | apply Kd.R_drew)); exact HO_12.out) hb); have n1_ := Aside0.mk (below_step (by repeat (first | (with_reducible first | exact HB.out | apply below_alloc | apply pw_below_drewN | apply below_drew1) | exact HB.out)) hb); clear HO_12; clear HB; have HO_12 := n0_; have HB := n1_; clear n0_ n1_; (try clear hb); (try clear hb2); (try clear hk); (try clear hi)) | ((with_reducible refine gate_callee (f := 8) rfl ?_); refine goesL_ (some 116) rfl rfl Try.func8 (by kernel_rfl) rfl #[.string t231] rfl (by (try simp only [List.map_toArray, List.map_cons, List.map_nil]); first | done | rfl | (simp only [List.length_drop, List.length_take]; rfl)) ?_; (with_reducible refine (addr_List.calls kj57 t231 t232 t233 _ A63.out).mono ?_); rintro e w67 ⟨v234, rfl, ho0, hb⟩; refine ⟨_, rfl, ?_⟩; have n0_ := Aside0.mk (Kd.R_elder' (by (with_reducible repeat (first | apply Kd.R_alloc | apply Kd.R_drewN | apply Kd.R_drew)); exact HO_12.out) (Kd.R_base ho0) hb); have n1_ := Aside0.mk (Kd.R_lower (Kd.R_new' ho0 (Kd.R_lt (by (with_reducible repeat (first | apply Kd.R_alloc | apply Kd.R_drewN | apply Kd.R_drew)); exact HO_12.out))) (below_size (by repeat (first | (with_reducible first | exact HB.out | apply below_alloc | apply pw_below_drewN | apply below_drew1) | exact HB.out)))); have n2_ := Aside0.mk (below_step (by repeat (first | (with_reducible first | exact HB.out | apply below_alloc | apply pw_below_drewN | apply below_drew1) | exact HB.out)) hb); clear HO_12; clear HB; have HO_12 := n0_; have HO235 := n1_; have HB := n2_; clear n0_ n1_ n2_; (try clear hb); (try clear hb2); (try clear hk); (try clear hi); (try clear ho0)))
                              (try simp only [Act.put, List.setIfInBounds_toArray, List.set_cons_zero, List.set_cons_succ])
                              go_cut [127] (fun v127 wc => ∃ (kq : Nat) (x127_63 : Bool), v127 = .bool x127_63 ∧ Aside0 (letterboxlaw10_AddrBack.j5 kq x12_57 t232 x127_63 = some r) ∧ Aside0 (kq ≤ kj57) ∧ Aside0 (Kd.R k27 27 wc w.heap.size (fun k_ => some k_ ≠ (v234 : Value).ownBlock) (.slice Ao65 x12_57.length co65) x12_57) ∧ Aside0 (Kd.R k27 27 wc w.heap.size (fun k_ => some k_ ≠ ((.slice Ao65 x12_57.length co65) : Value).ownBlock) v234 t232) ∧ Aside0 (Below w.heap.size w wc))
                              case first =>
                                have H := HC64.out
                                clear HC64
                                by_cases c68 : t233 = true
                                · subst c68
                                  have H1 : (letterboxlaw10_AddrBack.j5 kj57 x12_57 t232 ((t232.length : Int) != (x12_57.length : Int))) = some r := by rw [if_pos rfl] at H; exact H
                                  clear H
                                  have H := H1
                                  clear H1
                                  have H' := Aside0.mk H
                                  clear H
                                  obtain ⟨Ao69, co69, eo69⟩ := Kd.R_slice HO235.out
                                  subst eo69
                                  go_wp2
                                  go_meet
                                  case rel => exact ⟨_, (((t232.length : Int) != (x12_57.length : Int))), (by first | rfl | (simp; done) | (simp [*]; done)), H', ⟨by have := HJ6.out; have := HK2.out; have := HJ45.out; have := HK4.out; have := HJ57.out; first | omega | exact Nat.le_refl _⟩, ⟨by (with_reducible repeat (first | apply Kd.R_alloc | apply Kd.R_drewN | apply Kd.R_drew)); exact Kd.R_mono HO_12.out (fun _ hk => hk.2)⟩, ⟨by (with_reducible repeat (first | apply Kd.R_alloc | apply Kd.R_drewN | apply Kd.R_drew)); exact Kd.R_mono HO235.out (fun _ hk => hk.2)⟩, ⟨by repeat (first | (with_reducible first | exact HB.out | apply below_alloc | apply pw_below_drewN | apply below_drew1) | exact HB.out)⟩⟩
                                · replace c68 := Bool.eq_false_iff.mpr c68
                                  subst c68
                                  have H1 : (letterboxlaw10_AddrBack.j5 kj57 x12_57 t232 true) = some r := by rw [if_neg (show ¬ (false = true) by decide)] at H; exact H
                                  clear H
                                  have H := H1
                                  clear H1
                                  have H' := Aside0.mk H
                                  clear H
                                  go_wp2
                                  go_meet
                                  case rel => exact ⟨_, (true), (by first | rfl | (simp; done) | (simp [*]; done)), H', ⟨by have := HJ6.out; have := HK2.out; have := HJ45.out; have := HK4.out; have := HJ57.out; first | omega | exact Nat.le_refl _⟩, ⟨by (with_reducible repeat (first | apply Kd.R_alloc | apply Kd.R_drewN | apply Kd.R_drew)); exact Kd.R_mono HO_12.out (fun _ hk => hk.2)⟩, ⟨by (with_reducible repeat (first | apply Kd.R_alloc | apply Kd.R_drewN | apply Kd.R_drew)); exact Kd.R_mono HO235.out (fun _ hk => hk.2)⟩, ⟨by repeat (first | (with_reducible first | exact HB.out | apply below_alloc | apply pw_below_drewN | apply below_drew1) | exact HB.out)⟩⟩
                              case rest =>
                                clear HC64
                                try clear c1
                                try clear p1
                                try clear q1
                                try clear hx1
                                try clear c2
                                try clear p2
                                try clear q2
                                try clear hx2
                                try clear c3
                                try clear p3
                                try clear q3
                                try clear hx3
                                try clear c4
                                try clear p4
                                try clear q4
                                try clear hx4
                                try clear c5
                                try clear c6
                                try clear p6
                                try clear c7
                                try clear c8
                                try clear c9
                                try clear c9b0
                                try clear c9b1
                                try clear c10
                                try clear c10b0
                                try clear c10b1
                                try clear c11
                                try clear c12
                                try clear c12b0
                                try clear c13
                                try clear c13b0
                                try clear p14
                                try clear q14
                                try clear hx14
                                try clear c15
                                try clear c15b0
                                try clear p16
                                try clear q16
                                try clear hx16
                                try clear c17
                                try clear c17b0
                                try clear c18
                                try clear c18b0
                                try clear c19
                                try clear c19b0
                                try clear c19b1
                                try clear c20
                                try clear c20b0
                                try clear c20b1
                                try clear c21
                                try clear c21b0
                                try clear c21b1
                                try clear c21b2
                                try clear p22
                                try clear q22
                                try clear hx22
                                try clear c23
                                try clear c23b0
                                try clear c23b1
                                try clear c24
                                try clear c24b0
                                try clear c25
                                try clear c25b0
                                try clear c25b1
                                try clear c26
                                try clear c26b0
                                try clear c26b1
                                try clear c27
                                try clear c27b0
                                try clear c27b1
                                try clear c27b2
                                try clear p28
                                try clear q28
                                try clear hx28
                                try clear c29
                                try clear c29b0
                                try clear c29b1
                                try clear c30
                                try clear c30b0
                                try clear c31
                                try clear c31b0
                                try clear c31b1
                                try clear c32
                                try clear c32b0
                                try clear c32b1
                                try clear c33
                                try clear c33b0
                                try clear c33b1
                                try clear c33b2
                                try clear p34
                                try clear q34
                                try clear hx34
                                try clear c35
                                try clear c35b0
                                try clear c35b1
                                try clear c36
                                try clear c36b0
                                try clear c37
                                try clear c37b0
                                try clear c37b1
                                try clear c38
                                try clear c38b0
                                try clear c38b1
                                try clear c39
                                try clear c39b0
                                try clear c39b1
                                try clear c39b2
                                try clear p40
                                try clear q40
                                try clear hx40
                                try clear c41
                                try clear c41b0
                                try clear c41b1
                                try clear c42
                                try clear c42b0
                                try clear c43
                                try clear c43b0
                                try clear c43b1
                                try clear c44
                                try clear c44b0
                                try clear c44b1
                                try clear c45
                                try clear c45b0
                                try clear c45b1
                                try clear c45b2
                                try clear c47
                                try clear c48
                                try clear c50
                                try clear c50b0
                                try clear c51
                                try clear c51b0
                                try clear c52
                                try clear c52b0
                                try clear c52b1
                                try clear c53
                                try clear c53b0
                                try clear c54
                                try clear c54b0
                                try clear c54b1
                                try clear c55
                                try clear c59
                                try clear c60
                                try clear p64
                                try clear c68
                                try clear hx221_0
                                try clear hx222_0
                                try clear hx223_0
                                try clear hx224_0
                                try clear p1
                                try clear p14
                                try clear p16
                                try clear p2
                                try clear p22
                                try clear p221
                                try clear p222
                                try clear p223
                                try clear p224
                                try clear p28
                                try clear p3
                                try clear p34
                                try clear p4
                                try clear p40
                                try clear p6
                                try clear q1
                                try clear q14
                                try clear q16
                                try clear q2
                                try clear q22
                                try clear q221
                                try clear q222
                                try clear q223
                                try clear q224
                                try clear q28
                                try clear q3
                                try clear q34
                                try clear q4
                                try clear q40
                                obtain ⟨kq, x127_63, rfl, HA, HJ63, HO_12, HO_14, HB⟩ := hcut
                                cases kq with
                                | zero => exact absurd HA.out (by simp [letterboxlaw10_AddrBack.j5])
                                | succ kj63 =>
                                  have H := HA.out
                                  clear HA
                                  simp only [letterboxlaw10_AddrBack.j5] at H
                                  by_cases c70 : x127_63 = true
                                  · subst c70
                                    have H1 : (some false) = some r := by rw [if_pos rfl] at H; exact H
                                    clear H
                                    have H := H1
                                    clear H1
                                    obtain rfl := Option.some.inj H
                                    go_wp2
                                    go_ret
                                    exact ⟨by first | rfl | (simp [errW_none, errW_some] <;> rfl) | (simp [*, errW_none, errW_some] <;> rfl), by repeat (first | (with_reducible first | exact HB.out | apply below_alloc | apply pw_below_drewN | apply below_drew1) | exact HB.out)⟩
                                  · replace c70 := Bool.eq_false_iff.mpr c70
                                    subst c70
                                    have H1 : (letterboxlaw10_AddrBack.l2 kj63 x12_57 t232 0) = some r := by rw [if_neg (show ¬ (false = true) by decide)] at H; exact H
                                    clear H
                                    have H := H1
                                    clear H1
                                    have H' := Aside0.mk H
                                    clear H
                                    go_wp2
                                    go_loopg [16] kj63 (fun kq v16 w' => ∃ (x16_7 : Int), v16 = .int .i64 x16_7 ∧ Aside0 (letterboxlaw10_AddrBack.l2 kq x12_57 t232 x16_7 = some r) ∧ Aside0 (kq ≤ kj63) ∧ Aside0 (Kd.R k27 27 w' w.heap.size (fun k_ => some k_ ≠ (v234 : Value).ownBlock) (.slice Ao65 x12_57.length co65) x12_57) ∧ Aside0 (Kd.R k27 27 w' w.heap.size (fun k_ => some k_ ≠ ((.slice Ao65 x12_57.length co65) : Value).ownBlock) v234 t232) ∧ Aside0 (Below w.heap.size w w'))
                                    case atStart => exact ⟨(0), (by first | rfl | (simp; done) | (simp [*]; done)), H', ⟨Nat.le_refl _⟩, ⟨by (with_reducible repeat (first | apply Kd.R_alloc | apply Kd.R_drewN | apply Kd.R_drew)); exact HO_12.out⟩, ⟨by (with_reducible repeat (first | apply Kd.R_alloc | apply Kd.R_drewN | apply Kd.R_drew)); exact HO_14.out⟩, ⟨by repeat (first | (with_reducible first | exact HB.out | apply below_alloc | apply pw_below_drewN | apply below_drew1) | exact HB.out)⟩⟩
                                    case round =>
                                      clear H'
                                      try clear c1
                                      try clear p1
                                      try clear q1
                                      try clear hx1
                                      try clear c2
                                      try clear p2
                                      try clear q2
                                      try clear hx2
                                      try clear c3
                                      try clear p3
                                      try clear q3
                                      try clear hx3
                                      try clear c4
                                      try clear p4
                                      try clear q4
                                      try clear hx4
                                      try clear c5
                                      try clear c6
                                      try clear p6
                                      try clear c7
                                      try clear c8
                                      try clear c9
                                      try clear c9b0
                                      try clear c9b1
                                      try clear c10
                                      try clear c10b0
                                      try clear c10b1
                                      try clear c11
                                      try clear c12
                                      try clear c12b0
                                      try clear c13
                                      try clear c13b0
                                      try clear p14
                                      try clear q14
                                      try clear hx14
                                      try clear c15
                                      try clear c15b0
                                      try clear p16
                                      try clear q16
                                      try clear hx16
                                      try clear c17
                                      try clear c17b0
                                      try clear c18
                                      try clear c18b0
                                      try clear c19
                                      try clear c19b0
                                      try clear c19b1
                                      try clear c20
                                      try clear c20b0
                                      try clear c20b1
                                      try clear c21
                                      try clear c21b0
                                      try clear c21b1
                                      try clear c21b2
                                      try clear p22
                                      try clear q22
                                      try clear hx22
                                      try clear c23
                                      try clear c23b0
                                      try clear c23b1
                                      try clear c24
                                      try clear c24b0
                                      try clear c25
                                      try clear c25b0
                                      try clear c25b1
                                      try clear c26
                                      try clear c26b0
                                      try clear c26b1
                                      try clear c27
                                      try clear c27b0
                                      try clear c27b1
                                      try clear c27b2
                                      try clear p28
                                      try clear q28
                                      try clear hx28
                                      try clear c29
                                      try clear c29b0
                                      try clear c29b1
                                      try clear c30
                                      try clear c30b0
                                      try clear c31
                                      try clear c31b0
                                      try clear c31b1
                                      try clear c32
                                      try clear c32b0
                                      try clear c32b1
                                      try clear c33
                                      try clear c33b0
                                      try clear c33b1
                                      try clear c33b2
                                      try clear p34
                                      try clear q34
                                      try clear hx34
                                      try clear c35
                                      try clear c35b0
                                      try clear c35b1
                                      try clear c36
                                      try clear c36b0
                                      try clear c37
                                      try clear c37b0
                                      try clear c37b1
                                      try clear c38
                                      try clear c38b0
                                      try clear c38b1
                                      try clear c39
                                      try clear c39b0
                                      try clear c39b1
                                      try clear c39b2
                                      try clear p40
                                      try clear q40
                                      try clear hx40
                                      try clear c41
                                      try clear c41b0
                                      try clear c41b1
                                      try clear c42
                                      try clear c42b0
                                      try clear c43
                                      try clear c43b0
                                      try clear c43b1
                                      try clear c44
                                      try clear c44b0
                                      try clear c44b1
                                      try clear c45
                                      try clear c45b0
                                      try clear c45b1
                                      try clear c45b2
                                      try clear c47
                                      try clear c48
                                      try clear c50
                                      try clear c50b0
                                      try clear c51
                                      try clear c51b0
                                      try clear c52
                                      try clear c52b0
                                      try clear c52b1
                                      try clear c53
                                      try clear c53b0
                                      try clear c54
                                      try clear c54b0
                                      try clear c54b1
                                      try clear c55
                                      try clear c59
                                      try clear c60
                                      try clear p64
                                      try clear c68
                                      try clear c70
                                      try clear hx221_0
                                      try clear hx222_0
                                      try clear hx223_0
                                      try clear hx224_0
                                      try clear p1
                                      try clear p14
                                      try clear p16
                                      try clear p2
                                      try clear p22
                                      try clear p221
                                      try clear p222
                                      try clear p223
                                      try clear p224
                                      try clear p28
                                      try clear p3
                                      try clear p34
                                      try clear p4
                                      try clear p40
                                      try clear p6
                                      try clear p64
                                      try clear q1
                                      try clear q14
                                      try clear q16
                                      try clear q2
                                      try clear q22
                                      try clear q221
                                      try clear q222
                                      try clear q223
                                      try clear q224
                                      try clear q28
                                      try clear q3
                                      try clear q34
                                      try clear q4
                                      try clear q40
                                      obtain ⟨x16_7, rfl, HA, HK7, HO_12, HO_14, HB⟩ := hrel
                                      cases gk with
                                      | zero => exact absurd HA.out (by simp [letterboxlaw10_AddrBack.l2])
                                      | succ k7 =>
                                        have H := HA.out
                                        clear HA
                                        simp only [letterboxlaw10_AddrBack.l2] at H
                                        by_cases c71 : x16_7 < (x12_57.length : Int)
                                        · rw [if_pos c71] at H
                                          have c71b0 : decide (x16_7 < (x12_57.length : Int)) = true := decide_eq_true c71
                                          clear c71
                                          by_cases c72 : 0 ≤ x16_7
                                          · rw [if_pos c72] at H
                                            have c72b0 : decide (0 ≤ x16_7) = true := decide_eq_true c72
                                            clear c72
                                            by_cases c73 : x16_7 < (t232.length : Int)
                                            · rw [if_pos c73] at H
                                              have c73b0 : decide (x16_7 < (t232.length : Int)) = true := decide_eq_true c73
                                              clear c73
                                              by_cases c74 : (!(((rd_T27 t232 x16_7).f0) == ((rd_T27 x12_57 x16_7).f0)) || (!((((rd_T27 t232 x16_7).f1).toList) == (((rd_T27 x12_57 x16_7).f1).toList)) || (!((((rd_T27 t232 x16_7).f2).toList) == (((rd_T27 x12_57 x16_7).f2).toList)) || (!((((rd_T27 t232 x16_7).f3).toList) == (((rd_T27 x12_57 x16_7).f3).toList)))))) = true
                                              · rw [if_pos c74] at H
                                                have c74b0 : (!(((rd_T27 t232 x16_7).f0) == ((rd_T27 x12_57 x16_7).f0)) || (!((((rd_T27 t232 x16_7).f1).toList) == (((rd_T27 x12_57 x16_7).f1).toList)) || (!((((rd_T27 t232 x16_7).f2).toList) == (((rd_T27 x12_57 x16_7).f2).toList)) || (!((((rd_T27 t232 x16_7).f3).toList) == (((rd_T27 x12_57 x16_7).f3).toList)))))) = true := c74
                                                clear c74
                                                obtain rfl := Option.some.inj H
                                                try go_wp2
                                                have n0_ := Aside0.mk (Kd.R_drew HO_12.out)
                                                have n1_ := Aside0.mk (Kd.R_drew HO_14.out)
                                                have n2_ := Aside0.mk (below_drew1 HB.out)
                                                clear HO_12
                                                clear HO_14
                                                clear HB
                                                have HO_12 := n0_
                                                have HO_14 := n1_
                                                have HB := n2_
                                                clear n0_ n1_ n2_
                                                obtain ⟨Ao76, co76, eo76⟩ := Kd.R_slice HO_14.out
                                                (first | subst eo76 | (injection eo76 with f1_ f2_ f3_; have f4_ := f1_.symm; have f5_ := f3_.symm; clear f1_ f2_ f3_; subst f4_; subst f5_))
                                                have p236 : 0 ≤ (x16_7 : Int) := of_decide_eq_true (by first | (with_reducible assumption) | assumption)
                                                have q236 : x16_7 < (t232.length : Int) := of_decide_eq_true (by first | (with_reducible assumption) | assumption)
                                                obtain ⟨ad236, e236, hx236_0, hx236_1, hx236_2, hx236_3⟩ := at_T27 (Kd.R_reads' HO_14.out).2.2 x16_7 p236 q236
                                                cases e236
                                                replace p236 := eq_true p236
                                                replace q236 := eq_true q236
                                                have p237 : 0 ≤ (x16_7 : Int) := of_decide_eq_true (by first | (with_reducible assumption) | assumption)
                                                have q237 : x16_7 < (x12_57.length : Int) := of_decide_eq_true (by first | (with_reducible assumption) | assumption)
                                                obtain ⟨ad237, e237, hx237_0, hx237_1, hx237_2, hx237_3⟩ := at_T27 (Kd.R_reads' HO_12.out).2.2 x16_7 p237 q237
                                                cases e237
                                                replace p237 := eq_true p237
                                                replace q237 := eq_true q237
                                                refine start_ (n := 9) (S := fun w' => w'.cell? (ad236.add ((x16_7).toNat * 4)) = some (.int .i64 ((rd_T27 t232 x16_7).f0)) ∧ w'.cell? ⟨(ad236.add ((x16_7).toNat * 4)).block, (ad236.add ((x16_7).toNat * 4)).off + 1, none⟩ = some (.string ((rd_T27 t232 x16_7).f1)) ∧ w'.cell? ⟨(ad236.add ((x16_7).toNat * 4)).block, (ad236.add ((x16_7).toNat * 4)).off + 2, none⟩ = some (.string ((rd_T27 t232 x16_7).f2)) ∧ w'.cell? ⟨(ad236.add ((x16_7).toNat * 4)).block, (ad236.add ((x16_7).toNat * 4)).off + 3, none⟩ = some (.string ((rd_T27 t232 x16_7).f3)) ∧ w'.cell? (ad237.add ((x16_7).toNat * 4)) = some (.int .i64 ((rd_T27 x12_57 x16_7).f0)) ∧ w'.cell? ⟨(ad237.add ((x16_7).toNat * 4)).block, (ad237.add ((x16_7).toNat * 4)).off + 1, none⟩ = some (.string ((rd_T27 x12_57 x16_7).f1)) ∧ w'.cell? ⟨(ad237.add ((x16_7).toNat * 4)).block, (ad237.add ((x16_7).toNat * 4)).off + 2, none⟩ = some (.string ((rd_T27 x12_57 x16_7).f2)) ∧ w'.cell? ⟨(ad237.add ((x16_7).toNat * 4)).block, (ad237.add ((x16_7).toNat * 4)).off + 3, none⟩ = some (.string ((rd_T27 x12_57 x16_7).f3))) (ds := []) #[false, false, false, false, false, false, false, false, false] (by kernel_rfl) rfl rfl ⟨hx236_0, hx236_1, hx236_2, hx236_3, hx237_0, hx237_1, hx237_2, hx237_3⟩ (fun hHeld => ?_); refine with_tabW letterboxlaw10_AddrBack.tab29 letterboxlaw10_AddrBack.bits29 (fun HT_ HW_ => ?_)
                                                generalize wr.drew = w75 at HO_12 HO_14 HB hx236_0 hx236_1 hx236_2 hx236_3 hx237_0 hx237_1 hx237_2 hx237_3 hHeld ⊢
                                                refine pure_ (i := 0) (N := some 134) (v := ?_) (a' := ?_) #[true, false, false, false, false, false, false, false, false] rfl rfl (any_of HT_.out (by kernel_rfl)) (fun _ _ _ h => h) (Or.inl ⟨by rfl, ?_⟩) ?_ ?_
                                                rotate_left
                                                · intro w'
                                                  go_simp
                                                  with_reducible rfl
                                                rotate_left
                                                · simp only [Act.put, List.setIfInBounds_toArray, List.set_cons_zero, List.set_cons_succ, i64_w, i32_w]
                                                  rfl
                                                refine pure_ (i := 1) (N := some 135) (v := ?_) (a' := ?_) #[true, true, false, false, false, false, false, false, false] rfl rfl (any_of HT_.out (by kernel_rfl)) (fun _ _ _ h => h) (Or.inl ⟨by rfl, ?_⟩) ?_ ?_
                                                rotate_left
                                                · intro w'
                                                  go_simp
                                                  with_reducible rfl
                                                rotate_left
                                                · simp only [Act.put, List.setIfInBounds_toArray, List.set_cons_zero, List.set_cons_succ, i64_w, i32_w]
                                                  rfl
                                                refine pure_ (i := 2) (N := some 136) (v := ?_) (a' := ?_) #[true, true, true, false, false, false, false, false, false] rfl rfl (any_of HT_.out (by kernel_rfl)) (fun _ _ _ h => h) (Or.inl ⟨by rfl, ?_⟩) ?_ ?_
                                                rotate_left
                                                · intro w'
                                                  go_simp
                                                  with_reducible rfl
                                                rotate_left
                                                · simp only [Act.put, List.setIfInBounds_toArray, List.set_cons_zero, List.set_cons_succ, i64_w, i32_w]
                                                  rfl
                                                refine pure_ (i := 4) (N := some 138) (v := ?_) (a' := ?_) #[true, true, true, false, true, false, false, false, false] rfl rfl (any_of HT_.out (by kernel_rfl)) (fun _ _ _ h => h) (Or.inl ⟨by rfl, ?_⟩) ?_ ?_
                                                rotate_left
                                                · intro w'
                                                  go_simp
                                                  with_reducible rfl
                                                rotate_left
                                                · simp only [Act.put, List.setIfInBounds_toArray, List.set_cons_zero, List.set_cons_succ, i64_w, i32_w]
                                                  rfl
                                                refine pure_ (i := 5) (N := some 139) (v := ?_) (a' := ?_) #[true, true, true, false, true, true, false, false, false] rfl rfl (any_of HT_.out (by kernel_rfl)) (fun _ _ _ h => h) (Or.inl ⟨by rfl, ?_⟩) ?_ ?_
                                                rotate_left
                                                · intro w'
                                                  go_simp
                                                  with_reducible rfl
                                                rotate_left
                                                · simp only [Act.put, List.setIfInBounds_toArray, List.set_cons_zero, List.set_cons_succ, i64_w, i32_w]
                                                  rfl
                                                refine pure_ (i := 6) (N := some 140) (v := ?_) (a' := ?_) #[true, true, true, false, true, true, true, false, false] rfl rfl (any_of HT_.out (by kernel_rfl)) (fun _ _ _ h => h) (Or.inl ⟨by rfl, ?_⟩) ?_ ?_
                                                rotate_left
                                                · intro w'
                                                  go_simp
                                                  with_reducible rfl
                                                rotate_left
                                                · simp only [Act.put, List.setIfInBounds_toArray, List.set_cons_zero, List.set_cons_succ, i64_w, i32_w]
                                                  rfl
                                                refine take_ (i := 3) (N := some 137) (v := ?_) (a' := ?_) #[true, true, true, true, true, true, true, false, false] rfl rfl (take_ofW HT_.out HW_.out (by kernel_rfl)) (fun _ _ _ h => h) (Or.inl ⟨by rfl, ?_⟩) hHeld ?_ ?_
                                                rotate_left
                                                · rintro w' ⟨s0, s1, s2, s3, s4, s5, s6, s7⟩
                                                  go_simp
                                                  with_reducible rfl
                                                rotate_left
                                                · simp only [Act.put, List.setIfInBounds_toArray, List.set_cons_zero, List.set_cons_succ, i64_w, i32_w]
                                                  rfl
                                                refine take_ (i := 7) (N := some 141) (v := ?_) (a' := ?_) #[true, true, true, true, true, true, true, true, false] rfl rfl (take_ofW HT_.out HW_.out (by kernel_rfl)) (fun _ _ _ h => h) (Or.inl ⟨by rfl, ?_⟩) hHeld ?_ ?_
                                                rotate_left
                                                · rintro w' ⟨s0, s1, s2, s3, s4, s5, s6, s7⟩
                                                  go_simp
                                                  with_reducible rfl
                                                rotate_left
                                                · simp only [Act.put, List.setIfInBounds_toArray, List.set_cons_zero, List.set_cons_succ, i64_w, i32_w]
                                                  rfl
                                                refine pure_ (i := 8) (N := some 142) (v := ?_) (a' := ?_) #[true, true, true, true, true, true, true, true, true] rfl rfl (any_of HT_.out (by kernel_rfl)) (fun _ _ _ h => h) (Or.inl ⟨by rfl, ?_⟩) ?_ ?_
                                                rotate_left
                                                · intro w'
                                                  go_simp
                                                  with_reducible rfl
                                                rotate_left
                                                · simp only [Act.put, List.setIfInBounds_toArray, List.set_cons_zero, List.set_cons_succ, i64_w, i32_w]
                                                  rfl
                                                refine done_ (done_of HT_.out (by kernel_rfl)) ?_
                                                try go_wp2
                                                go_ret
                                                exact ⟨by first | rfl | (simp [errW_none, errW_some] <;> rfl) | (simp [*, errW_none, errW_some] <;> rfl), by repeat (first | (with_reducible first | exact HB.out | apply below_alloc | apply pw_below_drewN | apply below_drew1) | exact HB.out)⟩
                                              · rw [if_neg c74] at H
                                                have c74b0 : (!(((rd_T27 t232 x16_7).f0) == ((rd_T27 x12_57 x16_7).f0)) || (!((((rd_T27 t232 x16_7).f1).toList) == (((rd_T27 x12_57 x16_7).f1).toList)) || (!((((rd_T27 t232 x16_7).f2).toList) == (((rd_T27 x12_57 x16_7).f2).toList)) || (!((((rd_T27 t232 x16_7).f3).toList) == (((rd_T27 x12_57 x16_7).f3).toList)))))) = false := by simpa using c74
                                                clear c74
                                                have H' := Aside0.mk H
                                                clear H
                                                try go_wp2
                                                have n0_ := Aside0.mk (Kd.R_drew HO_12.out)
                                                have n1_ := Aside0.mk (Kd.R_drew HO_14.out)
                                                have n2_ := Aside0.mk (below_drew1 HB.out)
                                                clear HO_12
                                                clear HO_14
                                                clear HB
                                                have HO_12 := n0_
                                                have HO_14 := n1_
                                                have HB := n2_
                                                clear n0_ n1_ n2_
                                                obtain ⟨Ao78, co78, eo78⟩ := Kd.R_slice HO_14.out
                                                (first | subst eo78 | (injection eo78 with f1_ f2_ f3_; have f4_ := f1_.symm; have f5_ := f3_.symm; clear f1_ f2_ f3_; subst f4_; subst f5_))
                                                have p236 : 0 ≤ (x16_7 : Int) := of_decide_eq_true (by first | (with_reducible assumption) | assumption)
                                                have q236 : x16_7 < (t232.length : Int) := of_decide_eq_true (by first | (with_reducible assumption) | assumption)
                                                obtain ⟨ad236, e236, hx236_0, hx236_1, hx236_2, hx236_3⟩ := at_T27 (Kd.R_reads' HO_14.out).2.2 x16_7 p236 q236
                                                cases e236
                                                replace p236 := eq_true p236
                                                replace q236 := eq_true q236
                                                have p237 : 0 ≤ (x16_7 : Int) := of_decide_eq_true (by first | (with_reducible assumption) | assumption)
                                                have q237 : x16_7 < (x12_57.length : Int) := of_decide_eq_true (by first | (with_reducible assumption) | assumption)
                                                obtain ⟨ad237, e237, hx237_0, hx237_1, hx237_2, hx237_3⟩ := at_T27 (Kd.R_reads' HO_12.out).2.2 x16_7 p237 q237
                                                cases e237
                                                replace p237 := eq_true p237
                                                replace q237 := eq_true q237
                                                refine start_ (n := 9) (S := fun w' => w'.cell? (ad236.add ((x16_7).toNat * 4)) = some (.int .i64 ((rd_T27 t232 x16_7).f0)) ∧ w'.cell? ⟨(ad236.add ((x16_7).toNat * 4)).block, (ad236.add ((x16_7).toNat * 4)).off + 1, none⟩ = some (.string ((rd_T27 t232 x16_7).f1)) ∧ w'.cell? ⟨(ad236.add ((x16_7).toNat * 4)).block, (ad236.add ((x16_7).toNat * 4)).off + 2, none⟩ = some (.string ((rd_T27 t232 x16_7).f2)) ∧ w'.cell? ⟨(ad236.add ((x16_7).toNat * 4)).block, (ad236.add ((x16_7).toNat * 4)).off + 3, none⟩ = some (.string ((rd_T27 t232 x16_7).f3)) ∧ w'.cell? (ad237.add ((x16_7).toNat * 4)) = some (.int .i64 ((rd_T27 x12_57 x16_7).f0)) ∧ w'.cell? ⟨(ad237.add ((x16_7).toNat * 4)).block, (ad237.add ((x16_7).toNat * 4)).off + 1, none⟩ = some (.string ((rd_T27 x12_57 x16_7).f1)) ∧ w'.cell? ⟨(ad237.add ((x16_7).toNat * 4)).block, (ad237.add ((x16_7).toNat * 4)).off + 2, none⟩ = some (.string ((rd_T27 x12_57 x16_7).f2)) ∧ w'.cell? ⟨(ad237.add ((x16_7).toNat * 4)).block, (ad237.add ((x16_7).toNat * 4)).off + 3, none⟩ = some (.string ((rd_T27 x12_57 x16_7).f3))) (ds := []) #[false, false, false, false, false, false, false, false, false] (by kernel_rfl) rfl rfl ⟨hx236_0, hx236_1, hx236_2, hx236_3, hx237_0, hx237_1, hx237_2, hx237_3⟩ (fun hHeld => ?_); refine with_tabW letterboxlaw10_AddrBack.tab29 letterboxlaw10_AddrBack.bits29 (fun HT_ HW_ => ?_)
                                                generalize wr.drew = w77 at HO_12 HO_14 HB hx236_0 hx236_1 hx236_2 hx236_3 hx237_0 hx237_1 hx237_2 hx237_3 hHeld ⊢
                                                refine pure_ (i := 0) (N := some 134) (v := ?_) (a' := ?_) #[true, false, false, false, false, false, false, false, false] rfl rfl (any_of HT_.out (by kernel_rfl)) (fun _ _ _ h => h) (Or.inl ⟨by rfl, ?_⟩) ?_ ?_
                                                rotate_left
                                                · intro w'
                                                  go_simp
                                                  with_reducible rfl
                                                rotate_left
                                                · simp only [Act.put, List.setIfInBounds_toArray, List.set_cons_zero, List.set_cons_succ, i64_w, i32_w]
                                                  rfl
                                                refine pure_ (i := 1) (N := some 135) (v := ?_) (a' := ?_) #[true, true, false, false, false, false, false, false, false] rfl rfl (any_of HT_.out (by kernel_rfl)) (fun _ _ _ h => h) (Or.inl ⟨by rfl, ?_⟩) ?_ ?_
                                                rotate_left
                                                · intro w'
                                                  go_simp
                                                  with_reducible rfl
                                                rotate_left
                                                · simp only [Act.put, List.setIfInBounds_toArray, List.set_cons_zero, List.set_cons_succ, i64_w, i32_w]
                                                  rfl
                                                refine pure_ (i := 2) (N := some 136) (v := ?_) (a' := ?_) #[true, true, true, false, false, false, false, false, false] rfl rfl (any_of HT_.out (by kernel_rfl)) (fun _ _ _ h => h) (Or.inl ⟨by rfl, ?_⟩) ?_ ?_
                                                rotate_left
                                                · intro w'
                                                  go_simp
                                                  with_reducible rfl
                                                rotate_left
                                                · simp only [Act.put, List.setIfInBounds_toArray, List.set_cons_zero, List.set_cons_succ, i64_w, i32_w]
                                                  rfl
                                                refine pure_ (i := 4) (N := some 138) (v := ?_) (a' := ?_) #[true, true, true, false, true, false, false, false, false] rfl rfl (any_of HT_.out (by kernel_rfl)) (fun _ _ _ h => h) (Or.inl ⟨by rfl, ?_⟩) ?_ ?_
                                                rotate_left
                                                · intro w'
                                                  go_simp
                                                  with_reducible rfl
                                                rotate_left
                                                · simp only [Act.put, List.setIfInBounds_toArray, List.set_cons_zero, List.set_cons_succ, i64_w, i32_w]
                                                  rfl
                                                refine pure_ (i := 5) (N := some 139) (v := ?_) (a' := ?_) #[true, true, true, false, true, true, false, false, false] rfl rfl (any_of HT_.out (by kernel_rfl)) (fun _ _ _ h => h) (Or.inl ⟨by rfl, ?_⟩) ?_ ?_
                                                rotate_left
                                                · intro w'
                                                  go_simp
                                                  with_reducible rfl
                                                rotate_left
                                                · simp only [Act.put, List.setIfInBounds_toArray, List.set_cons_zero, List.set_cons_succ, i64_w, i32_w]
                                                  rfl
                                                refine pure_ (i := 6) (N := some 140) (v := ?_) (a' := ?_) #[true, true, true, false, true, true, true, false, false] rfl rfl (any_of HT_.out (by kernel_rfl)) (fun _ _ _ h => h) (Or.inl ⟨by rfl, ?_⟩) ?_ ?_
                                                rotate_left
                                                · intro w'
                                                  go_simp
                                                  with_reducible rfl
                                                rotate_left
                                                · simp only [Act.put, List.setIfInBounds_toArray, List.set_cons_zero, List.set_cons_succ, i64_w, i32_w]
                                                  rfl
                                                refine take_ (i := 3) (N := some 137) (v := ?_) (a' := ?_) #[true, true, true, true, true, true, true, false, false] rfl rfl (take_ofW HT_.out HW_.out (by kernel_rfl)) (fun _ _ _ h => h) (Or.inl ⟨by rfl, ?_⟩) hHeld ?_ ?_
                                                rotate_left
                                                · rintro w' ⟨s0, s1, s2, s3, s4, s5, s6, s7⟩
                                                  go_simp
                                                  with_reducible rfl
                                                rotate_left
                                                · simp only [Act.put, List.setIfInBounds_toArray, List.set_cons_zero, List.set_cons_succ, i64_w, i32_w]
                                                  rfl
                                                refine take_ (i := 7) (N := some 141) (v := ?_) (a' := ?_) #[true, true, true, true, true, true, true, true, false] rfl rfl (take_ofW HT_.out HW_.out (by kernel_rfl)) (fun _ _ _ h => h) (Or.inl ⟨by rfl, ?_⟩) hHeld ?_ ?_
                                                rotate_left
                                                · rintro w' ⟨s0, s1, s2, s3, s4, s5, s6, s7⟩
                                                  go_simp
                                                  with_reducible rfl
                                                rotate_left
                                                · simp only [Act.put, List.setIfInBounds_toArray, List.set_cons_zero, List.set_cons_succ, i64_w, i32_w]
                                                  rfl
                                                refine pure_ (i := 8) (N := some 142) (v := ?_) (a' := ?_) #[true, true, true, true, true, true, true, true, true] rfl rfl (any_of HT_.out (by kernel_rfl)) (fun _ _ _ h => h) (Or.inl ⟨by rfl, ?_⟩) ?_ ?_
                                                rotate_left
                                                · intro w'
                                                  go_simp
                                                  with_reducible rfl
                                                rotate_left
                                                · simp only [Act.put, List.setIfInBounds_toArray, List.set_cons_zero, List.set_cons_succ, i64_w, i32_w]
                                                  rfl
                                                refine done_ (done_of HT_.out (by kernel_rfl)) ?_
                                                try go_wp2
                                                go_roundg k7
                                                case measure => have := HJ6.out; have := HK2.out; have := HJ45.out; have := HK4.out; have := HJ57.out; have := HJ63.out; have := HK7.out; omega
                                                case rel => exact ⟨(wrap64 (x16_7 + 1)), (by first | rfl | (simp; done) | (simp [*]; done)), H', ⟨by have := HJ6.out; have := HK2.out; have := HJ45.out; have := HK4.out; have := HJ57.out; have := HJ63.out; have := HK7.out; omega⟩, ⟨by (with_reducible repeat (first | apply Kd.R_alloc | apply Kd.R_drewN | apply Kd.R_drew)); exact HO_12.out⟩, ⟨by (with_reducible repeat (first | apply Kd.R_alloc | apply Kd.R_drewN | apply Kd.R_drew)); exact HO_14.out⟩, ⟨by repeat (first | (with_reducible first | exact HB.out | apply below_alloc | apply pw_below_drewN | apply below_drew1) | exact HB.out)⟩⟩
                                            · rw [if_neg c73] at H
                                              exact absurd H (by simp)
                                          · rw [if_neg c72] at H
                                            exact absurd H (by simp)
                                        · rw [if_neg c71] at H
                                          have c71b0 : decide (x16_7 < (x12_57.length : Int)) = false := decide_eq_false c71
                                          clear c71
                                          obtain rfl := Option.some.inj H
                                          go_wp2
                                          go_ret
                                          exact ⟨by first | rfl | (simp [errW_none, errW_some] <;> rfl) | (simp [*, errW_none, errW_some] <;> rfl), by repeat (first | (with_reducible first | exact HB.out | apply below_alloc | apply pw_below_drewN | apply below_drew1) | exact HB.out)⟩
  · replace c6 := Bool.eq_false_iff.mpr c6
    subst c6
    have H1 : (some false) = some r := by rw [if_neg (show ¬ (false = true) by decide)] at H; exact H
    clear H
    have H := H1
    clear H1
    obtain rfl := Option.some.inj H
    go_enter Try.func6, Try.ntmps6
    go_wp2_with (first | ((with_reducible refine gate_callee (f := 7) rfl ?_); refine goesL_ (some 17) rfl rfl Try.func7 (by kernel_rfl) rfl #[] rfl (by (try simp only [List.map_toArray, List.map_cons, List.map_nil]); first | done | rfl | (simp only [List.length_drop, List.length_take]; rfl)) ?_; (with_reducible refine (letterboxlaw10_awake.calls k  false _ A5.out).mono ?_); rintro e w79 ⟨rfl, hb⟩; refine ⟨_, rfl, ?_⟩; have n0_ := Aside0.mk (below_step (by repeat (first | (with_reducible first | exact HB.out | apply below_alloc | apply pw_below_drewN | apply below_drew1) | exact HB.out)) hb); clear HB; have HB := n0_; clear n0_; (try clear hb); (try clear hb2); (try clear hk); (try clear hi)))
    go_ret
    exact ⟨by first | rfl | (simp [errW_none, errW_some] <;> rfl) | (simp [*, errW_none, errW_some] <;> rfl), by repeat (first | (with_reducible first | exact HB.out | apply below_alloc | apply pw_below_drewN | apply below_drew1) | exact HB.out)⟩

/-- THE ONE PURE STATEMENT of letterboxlaw10_AddrBack: yours. -/
def letterboxlaw10_AddrBack.Pure : Prop := ∀ (l0 : List ByteArray) (l1 : List ByteArray) (a2 : ByteArray) (a3 : Bool), (l0.length ≤ maxLen ∧ l0.length * 16 ≤ 140737488351232 ∧ ∀ x0_ ∈ l0, x0_.size ≤ 140737488351232) → (l1.length ≤ maxLen ∧ l1.length * 16 ≤ 140737488351232 ∧ ∀ x0_ ∈ l1, x0_.size ≤ 140737488351232) → a2.size ≤ 140737488351232 → ∃ k, letterboxlaw10_AddrBack.f k l0 l1 a2 a3 = some true
theorem letterboxlaw10_AddrBack.walk (P : letterboxlaw10_AddrBack.Pure) (a0 : Option Addr) (cap0 : Nat) (l0 : List ByteArray) (a1 : Option Addr) (cap1 : Nat) (l1 : List ByteArray) (a2 : ByteArray) (a3 : Bool) (w : World) (hC0 : Kd.C Kd.string w a0 l0.length l0) (hc0 : l0.length ≤ cap0) (hg0 : (l0.length ≤ maxLen ∧ l0.length * 16 ≤ 140737488351232 ∧ ∀ x0_ ∈ l0, x0_.size ≤ 140737488351232)) (hC1 : Kd.C Kd.string w a1 l1.length l1) (hc1 : l1.length ≤ cap1) (hg1 : (l1.length ≤ maxLen ∧ l1.length * 16 ≤ 140737488351232 ∧ ∀ x0_ ∈ l1, x0_.size ≤ 140737488351232)) (w2 : a2.size ≤ 140737488351232) :
    Calls Try.prog 6 #[.slice a0 l0.length cap0, .slice a1 l1.length cap1, .string a2, .bool a3] w fun e w' => e = .returned (.bool true) ∧ Below w.heap.size w w' := by
  obtain ⟨k, h⟩ := P l0 l1 a2 a3 hg0 hg1 w2
  refine (letterboxlaw10_AddrBack.calls k _ _ l0 _ _ l1 a2 a3 true w hC0 hc0 hC1 hc1 h).mono ?_
  rintro e w' ⟨rfl, hd⟩
  exact ⟨rfl, hd⟩

end Go.Proofs.Ytcjepgofcojeoaa.P
