-- Written by a program of this session (wip/tools/mk.sh) for this claim: it runs the kit's print with contracts of our own. Lean checks it.
import Derived.Test.YtckmfmfhhojmfaaPx0
import Derived.Test.YtckmfmfhhojmfaaPx2
import Derived.Test.YtckmfmfhhojmfaaPx3
namespace Go.Proofs.Ytckmfmfhhojmfaa.P
open Go.RowKit Go.Proofs.YtckmfmfhhojmfaaW.PrintWords Go.Proofs.YtckmfmfhhojmfaaW.PrintLast Go.Proofs.YtckmfmfhhojmfaaW.PrintMore
attribute [-simp] Int.tmod_tmod_of_dvd
attribute [local go_sem] max2_int min2_int max_two min_two max_three min_three max_four min_four   -- for this text's walks alone
set_option linter.unusedVariables false
set_option linter.unusedSimpArgs false

/-! ### letterboxlaw06_HeaderFolds: function 4 -/
mutual
def letterboxlaw06_HeaderFolds.l0 : Nat → List ByteArray → Bool → ByteArray → ByteArray → Int → Option (Bool)
  | 0, _, _, _, _, _ => none
  | k + 1, x0, x1, x6, x7, x8 => if x8 < (x0.length : Int) then (letterboxlaw06_HeaderFolds.l1 k x0 x1 x6 x7 x8 (⟨#[]⟩ : ByteArray) 0) else (if (x0.length : Int) = 0 then (if x6.size + 2 ≤ 9223372036854775807 then (letterboxlaw06_HeaderFolds.j3 k x1 (x6 ++ (⟨#[13, 10]⟩ : ByteArray)) x7) else (none)) else (letterboxlaw06_HeaderFolds.j3 k x1 x6 x7))
def letterboxlaw06_HeaderFolds.l1 : Nat → List ByteArray → Bool → ByteArray → ByteArray → Int → ByteArray → Int → Option (Bool)
  | 0, _, _, _, _, _, _, _ => none
  | k + 1, x0, x1, x6, x7, x8, x9, x10 => if 0 ≤ x8 then (if x8 < (x0.length : Int) then (if x10 < ((rdOf ByteArray.empty x0 x8).size : Int) then (letterboxlaw06_HeaderFolds.j2 k x0 x1 x6 x7 x8 x9 x10 (decide (x10 < 20))) else (letterboxlaw06_HeaderFolds.j2 k x0 x1 x6 x7 x8 x9 x10 false)) else (none)) else (none)
def letterboxlaw06_HeaderFolds.j2 : Nat → List ByteArray → Bool → ByteArray → ByteArray → Int → ByteArray → Int → Bool → Option (Bool)
  | 0, _, _, _, _, _, _, _, _ => none
  | k + 1, x0, x1, x6, x7, x8, x9, x10, x36 => if x36 = true then (if 0 ≤ x8 then (if x8 < (x0.length : Int) then (if 0 ≤ x10 then (if x10 < ((rdOf ByteArray.empty x0 x8).size : Int) then (if (bt (rdOf ByteArray.empty x0 x8) x10) > 32 then (if (bt (rdOf ByteArray.empty x0 x8) x10) < 127 then (if x10 ≤ (wrap64 (x10 + 1)) then (if (wrap64 (x10 + 1)) ≤ ((rdOf ByteArray.empty x0 x8).size : Int) then (if x9.size + ((rdOf ByteArray.empty x0 x8).extract (x10 : Int).toNat ((wrap64 (x10 + 1)) : Int).toNat).size ≤ 9223372036854775807 then (letterboxlaw06_HeaderFolds.l1 k x0 x1 x6 x7 x8 (x9 ++ ((rdOf ByteArray.empty x0 x8).extract (x10 : Int).toNat ((wrap64 (x10 + 1)) : Int).toNat)) (wrap64 (x10 + 1))) else (none)) else (none)) else (none)) else (letterboxlaw06_HeaderFolds.l1 k x0 x1 x6 x7 x8 x9 (wrap64 (x10 + 1)))) else (letterboxlaw06_HeaderFolds.l1 k x0 x1 x6 x7 x8 x9 (wrap64 (x10 + 1)))) else (none)) else (none)) else (none)) else (none)) else (if x9.toList = ([] : List UInt8) then (if 1 + 1 ≤ 9223372036854775807 then (if 1 + 2 ≤ 9223372036854775807 then (if x6.size + (((⟨#[32]⟩ : ByteArray) ++ (⟨#[120]⟩ : ByteArray)) ++ (⟨#[13, 10]⟩ : ByteArray)).size ≤ 9223372036854775807 then (if x7.toList = ([] : List UInt8) then (if x7.size + 1 ≤ 9223372036854775807 then (letterboxlaw06_HeaderFolds.l0 k x0 x1 (x6 ++ (((⟨#[32]⟩ : ByteArray) ++ (⟨#[120]⟩ : ByteArray)) ++ (⟨#[13, 10]⟩ : ByteArray))) (x7 ++ (⟨#[120]⟩ : ByteArray)) (wrap64 (x8 + 1))) else (none)) else (if x7.size + 1 ≤ 9223372036854775807 then (if (x7 ++ (⟨#[32]⟩ : ByteArray)).size + 1 ≤ 9223372036854775807 then (letterboxlaw06_HeaderFolds.l0 k x0 x1 (x6 ++ (((⟨#[32]⟩ : ByteArray) ++ (⟨#[120]⟩ : ByteArray)) ++ (⟨#[13, 10]⟩ : ByteArray))) ((x7 ++ (⟨#[32]⟩ : ByteArray)) ++ (⟨#[120]⟩ : ByteArray)) (wrap64 (x8 + 1))) else (none)) else (none))) else (none)) else (none)) else (none)) else (if 1 + x9.size ≤ 9223372036854775807 then (if ((⟨#[32]⟩ : ByteArray) ++ x9).size + 2 ≤ 9223372036854775807 then (if x6.size + (((⟨#[32]⟩ : ByteArray) ++ x9) ++ (⟨#[13, 10]⟩ : ByteArray)).size ≤ 9223372036854775807 then (if x7.toList = ([] : List UInt8) then (if x7.size + x9.size ≤ 9223372036854775807 then (letterboxlaw06_HeaderFolds.l0 k x0 x1 (x6 ++ (((⟨#[32]⟩ : ByteArray) ++ x9) ++ (⟨#[13, 10]⟩ : ByteArray))) (x7 ++ x9) (wrap64 (x8 + 1))) else (none)) else (if x7.size + 1 ≤ 9223372036854775807 then (if (x7 ++ (⟨#[32]⟩ : ByteArray)).size + x9.size ≤ 9223372036854775807 then (letterboxlaw06_HeaderFolds.l0 k x0 x1 (x6 ++ (((⟨#[32]⟩ : ByteArray) ++ x9) ++ (⟨#[13, 10]⟩ : ByteArray))) ((x7 ++ (⟨#[32]⟩ : ByteArray)) ++ x9) (wrap64 (x8 + 1))) else (none)) else (none))) else (none)) else (none)) else (none)))
def letterboxlaw06_HeaderFolds.j3 : Nat → Bool → ByteArray → ByteArray → Option (Bool)
  | 0, _, _, _ => none
  | k + 1, x1, x6, x7 => if x6.size + 18 ≤ 9223372036854775807 then (if x1 = true then (letterboxlaw06_HeaderFolds.j4 k (x6 ++ (⟨#[88, 45, 65, 102, 116, 101, 114, 58, 32, 50, 13, 10, 13, 10, 98, 111, 100, 121]⟩ : ByteArray)) x7 (⟨#[83, 85, 66, 74, 69, 67, 84]⟩ : ByteArray)) else (letterboxlaw06_HeaderFolds.j4 k (x6 ++ (⟨#[88, 45, 65, 102, 116, 101, 114, 58, 32, 50, 13, 10, 13, 10, 98, 111, 100, 121]⟩ : ByteArray)) x7 (⟨#[115, 117, 98, 106, 101, 99, 116]⟩ : ByteArray))) else (none)
def letterboxlaw06_HeaderFolds.j4 : Nat → ByteArray → ByteArray → ByteArray → Option (Bool)
  | 0, _, _, _ => none
  | k + 1, x6, x7, x11 => if x6.size ≤ 9223372036854775807 then ((header_Of.f k (bytesOf x6) 0 (x6.size : Int)).bind fun bt164 => (if (bt164.1.length : Int) = 3 then (if 0 ≤ bt164.2 then (if bt164.2 ≤ (x6.size : Int) then (if (x6.extract (bt164.2 : Int).toNat x6.size).toList = ([98, 111, 100, 121] : List UInt8) then ((header_Value.f k (bytesOf x6) bt164.1 x11).bind fun t171 => (if t171.toList = x7.toList then ((header_Value.f k (bytesOf x6) bt164.1 (⟨#[120, 45, 97, 102, 116, 101, 114]⟩ : ByteArray)).bind fun t175 => (if t175.toList = ([50] : List UInt8) then ((header_Value.f k (bytesOf x6) bt164.1 (⟨#[110, 111, 110, 101]⟩ : ByteArray)).bind fun t179 => (some (t179.toList == ([] : List UInt8)))) else (some false))) else (some false))) else (some false)) else (none)) else (none)) else (some false))) else (none)
end
def letterboxlaw06_HeaderFolds.f (k : Nat) (l0 : List ByteArray) (a1 : Bool) : Option (Bool) := (letterboxlaw06_awake.f).bind fun t156 => (if t156 = true then (if (l0.length : Int) > 8 then (some true) else (letterboxlaw06_HeaderFolds.l0 k l0 a1 (⟨#[88, 45, 66, 101, 102, 111, 114, 101, 58, 32, 49, 13, 10, 83, 117, 98, 106, 101, 99, 116, 58]⟩ : ByteArray) (⟨#[]⟩ : ByteArray) 0)) else (some false))
theorem letterboxlaw06_HeaderFolds.mono_l : ∀ k, (∀ y0 y1 y2 y3 y4, LeO (letterboxlaw06_HeaderFolds.l0 k y0 y1 y2 y3 y4) (letterboxlaw06_HeaderFolds.l0 (k + 1) y0 y1 y2 y3 y4)) ∧ (∀ y0 y1 y2 y3 y4 y5 y6, LeO (letterboxlaw06_HeaderFolds.l1 k y0 y1 y2 y3 y4 y5 y6) (letterboxlaw06_HeaderFolds.l1 (k + 1) y0 y1 y2 y3 y4 y5 y6)) ∧ (∀ y0 y1 y2 y3 y4 y5 y6 y7, LeO (letterboxlaw06_HeaderFolds.j2 k y0 y1 y2 y3 y4 y5 y6 y7) (letterboxlaw06_HeaderFolds.j2 (k + 1) y0 y1 y2 y3 y4 y5 y6 y7)) ∧ (∀ y0 y1 y2, LeO (letterboxlaw06_HeaderFolds.j3 k y0 y1 y2) (letterboxlaw06_HeaderFolds.j3 (k + 1) y0 y1 y2)) ∧ (∀ y0 y1 y2, LeO (letterboxlaw06_HeaderFolds.j4 k y0 y1 y2) (letterboxlaw06_HeaderFolds.j4 (k + 1) y0 y1 y2))
  | 0 => ⟨fun _ _ _ _ _ r h => by simp [letterboxlaw06_HeaderFolds.l0] at h, fun _ _ _ _ _ _ _ r h => by simp [letterboxlaw06_HeaderFolds.l1] at h, fun _ _ _ _ _ _ _ _ r h => by simp [letterboxlaw06_HeaderFolds.j2] at h, fun _ _ _ r h => by simp [letterboxlaw06_HeaderFolds.j3] at h, fun _ _ _ r h => by simp [letterboxlaw06_HeaderFolds.j4] at h⟩
  | k + 1 => by
    obtain ⟨ih0, ih1, ih2, ih3, ih4⟩ := letterboxlaw06_HeaderFolds.mono_l k
    refine ⟨?_, ?_, ?_, ?_, ?_⟩
    · intro y0 y1 y2 y3 y4
      unfold letterboxlaw06_HeaderFolds.l0
      repeat' first
      | (with_reducible exact ih0 _ _ _ _ _)
      | (with_reducible exact ih1 _ _ _ _ _ _ _)
      | (with_reducible exact ih2 _ _ _ _ _ _ _ _)
      | (with_reducible exact ih3 _ _ _)
      | (with_reducible exact ih4 _ _ _)
      | (with_reducible exact header_Of.mono _ _ _ _)
      | (with_reducible exact header_Value.mono _ _ _ _)
      | (with_reducible exact LeO.refl _)
      | (with_reducible exact LeO.none _)
      | (with_reducible refine LeO.ite ?_ ?_)
      | (with_reducible refine LeO.bind ?_ (fun _ => ?_))
      | exact ih0 _ _ _ _ _
      | exact ih1 _ _ _ _ _ _ _
      | exact ih2 _ _ _ _ _ _ _ _
      | exact ih3 _ _ _
      | exact ih4 _ _ _
      | exact header_Of.mono _ _ _ _
      | exact header_Value.mono _ _ _ _
      | exact LeO.none _
      | refine LeO.ite ?_ ?_
      | refine LeO.bind ?_ (fun _ => ?_)
    · intro y0 y1 y2 y3 y4 y5 y6
      unfold letterboxlaw06_HeaderFolds.l1
      repeat' first
      | (with_reducible exact ih0 _ _ _ _ _)
      | (with_reducible exact ih1 _ _ _ _ _ _ _)
      | (with_reducible exact ih2 _ _ _ _ _ _ _ _)
      | (with_reducible exact ih3 _ _ _)
      | (with_reducible exact ih4 _ _ _)
      | (with_reducible exact header_Of.mono _ _ _ _)
      | (with_reducible exact header_Value.mono _ _ _ _)
      | (with_reducible exact LeO.refl _)
      | (with_reducible exact LeO.none _)
      | (with_reducible refine LeO.ite ?_ ?_)
      | (with_reducible refine LeO.bind ?_ (fun _ => ?_))
      | exact ih0 _ _ _ _ _
      | exact ih1 _ _ _ _ _ _ _
      | exact ih2 _ _ _ _ _ _ _ _
      | exact ih3 _ _ _
      | exact ih4 _ _ _
      | exact header_Of.mono _ _ _ _
      | exact header_Value.mono _ _ _ _
      | exact LeO.none _
      | refine LeO.ite ?_ ?_
      | refine LeO.bind ?_ (fun _ => ?_)
    · intro y0 y1 y2 y3 y4 y5 y6 y7
      unfold letterboxlaw06_HeaderFolds.j2
      repeat' first
      | (with_reducible exact ih0 _ _ _ _ _)
      | (with_reducible exact ih1 _ _ _ _ _ _ _)
      | (with_reducible exact ih2 _ _ _ _ _ _ _ _)
      | (with_reducible exact ih3 _ _ _)
      | (with_reducible exact ih4 _ _ _)
      | (with_reducible exact header_Of.mono _ _ _ _)
      | (with_reducible exact header_Value.mono _ _ _ _)
      | (with_reducible exact LeO.refl _)
      | (with_reducible exact LeO.none _)
      | (with_reducible refine LeO.ite ?_ ?_)
      | (with_reducible refine LeO.bind ?_ (fun _ => ?_))
      | exact ih0 _ _ _ _ _
      | exact ih1 _ _ _ _ _ _ _
      | exact ih2 _ _ _ _ _ _ _ _
      | exact ih3 _ _ _
      | exact ih4 _ _ _
      | exact header_Of.mono _ _ _ _
      | exact header_Value.mono _ _ _ _
      | exact LeO.none _
      | refine LeO.ite ?_ ?_
      | refine LeO.bind ?_ (fun _ => ?_)
    · intro y0 y1 y2
      unfold letterboxlaw06_HeaderFolds.j3
      repeat' first
      | (with_reducible exact ih0 _ _ _ _ _)
      | (with_reducible exact ih1 _ _ _ _ _ _ _)
      | (with_reducible exact ih2 _ _ _ _ _ _ _ _)
      | (with_reducible exact ih3 _ _ _)
      | (with_reducible exact ih4 _ _ _)
      | (with_reducible exact header_Of.mono _ _ _ _)
      | (with_reducible exact header_Value.mono _ _ _ _)
      | (with_reducible exact LeO.refl _)
      | (with_reducible exact LeO.none _)
      | (with_reducible refine LeO.ite ?_ ?_)
      | (with_reducible refine LeO.bind ?_ (fun _ => ?_))
      | exact ih0 _ _ _ _ _
      | exact ih1 _ _ _ _ _ _ _
      | exact ih2 _ _ _ _ _ _ _ _
      | exact ih3 _ _ _
      | exact ih4 _ _ _
      | exact header_Of.mono _ _ _ _
      | exact header_Value.mono _ _ _ _
      | exact LeO.none _
      | refine LeO.ite ?_ ?_
      | refine LeO.bind ?_ (fun _ => ?_)
    · intro y0 y1 y2
      unfold letterboxlaw06_HeaderFolds.j4
      repeat' first
      | (with_reducible exact ih0 _ _ _ _ _)
      | (with_reducible exact ih1 _ _ _ _ _ _ _)
      | (with_reducible exact ih2 _ _ _ _ _ _ _ _)
      | (with_reducible exact ih3 _ _ _)
      | (with_reducible exact ih4 _ _ _)
      | (with_reducible exact header_Of.mono _ _ _ _)
      | (with_reducible exact header_Value.mono _ _ _ _)
      | (with_reducible exact LeO.refl _)
      | (with_reducible exact LeO.none _)
      | (with_reducible refine LeO.ite ?_ ?_)
      | (with_reducible refine LeO.bind ?_ (fun _ => ?_))
      | exact ih0 _ _ _ _ _
      | exact ih1 _ _ _ _ _ _ _
      | exact ih2 _ _ _ _ _ _ _ _
      | exact ih3 _ _ _
      | exact ih4 _ _ _
      | exact header_Of.mono _ _ _ _
      | exact header_Value.mono _ _ _ _
      | exact LeO.none _
      | refine LeO.ite ?_ ?_
      | refine LeO.bind ?_ (fun _ => ?_)
theorem letterboxlaw06_HeaderFolds.mono : ∀ a0 a1 k, LeO (letterboxlaw06_HeaderFolds.f k a0 a1) (letterboxlaw06_HeaderFolds.f (k + 1) a0 a1) := by
  intro a0 a1 k
  obtain ⟨ih0, ih1, ih2, ih3, ih4⟩ := letterboxlaw06_HeaderFolds.mono_l k
  unfold letterboxlaw06_HeaderFolds.f
  repeat' first
      | (with_reducible exact ih0 _ _ _ _ _)
      | (with_reducible exact ih1 _ _ _ _ _ _ _)
      | (with_reducible exact ih2 _ _ _ _ _ _ _ _)
      | (with_reducible exact ih3 _ _ _)
      | (with_reducible exact ih4 _ _ _)
      | (with_reducible exact header_Of.mono _ _ _ _)
      | (with_reducible exact header_Value.mono _ _ _ _)
      | (with_reducible exact LeO.refl _)
      | (with_reducible exact LeO.none _)
      | (with_reducible refine LeO.ite ?_ ?_)
      | (with_reducible refine LeO.bind ?_ (fun _ => ?_))
      | exact ih0 _ _ _ _ _
      | exact ih1 _ _ _ _ _ _ _
      | exact ih2 _ _ _ _ _ _ _ _
      | exact ih3 _ _ _
      | exact ih4 _ _ _
      | exact header_Of.mono _ _ _ _
      | exact header_Value.mono _ _ _ _
      | exact LeO.none _
      | refine LeO.ite ?_ ?_
      | refine LeO.bind ?_ (fun _ => ?_)
set_option maxHeartbeats 8000000 in
set_option maxRecDepth 100000 in
theorem letterboxlaw06_HeaderFolds.calls (k : Nat) (A0 : Option Addr) (c0 : Nat) (l0 : List ByteArray) (a1 : Bool) (r : Bool) (w : World) (hr0 : Kd.C Kd.string w A0 l0.length l0) (hc0 : l0.length ≤ c0) (h : letterboxlaw06_HeaderFolds.f k l0 a1 = some r) :
    Calls Try.prog 4 #[.slice A0 l0.length c0, .bool a1] w fun e w' => e = .returned (.bool r) ∧ Below w.heap.size w w' := by
  have hu29 := Try.underlying29
  have HR0 := Aside0.mk hr0
  have HC0 := Aside0.mk hc0
  clear hr0 hc0
  have HB := Aside0.mk (Below.refl w.heap.size w)
  have H : ((letterboxlaw06_awake.f).bind fun t156 => (if t156 = true then (if (l0.length : Int) > 8 then (some true) else (letterboxlaw06_HeaderFolds.l0 k l0 a1 (⟨#[88, 45, 66, 101, 102, 111, 114, 101, 58, 32, 49, 13, 10, 83, 117, 98, 106, 101, 99, 116, 58]⟩ : ByteArray) (⟨#[]⟩ : ByteArray) 0)) else (some false))) = some r := h
  clear h
  replace H := Option.bind_eq_some_iff.mp H
  obtain ⟨t156, A30, H⟩ := H
  replace H : (if t156 = true then (if (l0.length : Int) > 8 then (some true) else (letterboxlaw06_HeaderFolds.l0 k l0 a1 (⟨#[88, 45, 66, 101, 102, 111, 114, 101, 58, 32, 49, 13, 10, 83, 117, 98, 106, 101, 99, 116, 58]⟩ : ByteArray) (⟨#[]⟩ : ByteArray) 0)) else (some false)) = some r := H
  have A3 := Aside0.mk A30
  clear A30
  by_cases c4 : t156 = true
  · subst c4
    have H1 : (if (l0.length : Int) > 8 then (some true) else (letterboxlaw06_HeaderFolds.l0 k l0 a1 (⟨#[88, 45, 66, 101, 102, 111, 114, 101, 58, 32, 49, 13, 10, 83, 117, 98, 106, 101, 99, 116, 58]⟩ : ByteArray) (⟨#[]⟩ : ByteArray) 0)) = some r := by rw [if_pos rfl] at H; exact H
    clear H
    have H := H1
    clear H1
    by_cases c5 : (l0.length : Int) > 8
    · rw [if_pos c5] at H
      have c5b0 : decide (8 < (l0.length : Int)) = true := decide_eq_true c5
      have c5b1 : decide (8 < l0.length) = true := decide_eq_true (by omega)
      clear c5
      obtain rfl := Option.some.inj H
      go_enter Try.func4, Try.ntmps4
      go_wp2_with (first | ((with_reducible refine gate_callee (f := 5) rfl ?_); refine goesL_ (some 14) rfl rfl Try.func5 (by kernel_rfl) rfl #[] rfl (by (try simp only [List.map_toArray, List.map_cons, List.map_nil]); first | done | rfl | (simp only [List.length_drop, List.length_take]; rfl) | (simp only [ByteArray.size_append, Int.natCast_add]; rfl)) ?_; (with_reducible refine (letterboxlaw06_awake.calls  true _ A3.out).mono ?_); rintro e w6 ⟨rfl, hb⟩; refine ⟨_, rfl, ?_⟩; have n0_ := Aside0.mk (below_step (by repeat (first | (with_reducible first | exact HB.out | apply below_alloc | apply pw_below_drewN | apply below_drew1) | exact HB.out)) hb); clear HB; have HB := n0_; clear n0_; (try clear hb); (try clear hb2); (try clear hk); (try clear hi)))
      go_ret
      exact ⟨by first | rfl | (simp [errW_none, errW_some] <;> rfl) | (simp [*, errW_none, errW_some] <;> rfl), by repeat (first | (with_reducible first | exact HB.out | apply below_alloc | apply pw_below_drewN | apply below_drew1) | exact HB.out)⟩
    · rw [if_neg c5] at H
      have c5b0 : decide (8 < (l0.length : Int)) = false := decide_eq_false c5
      have c5b1 : decide (8 < l0.length) = false := decide_eq_false (by omega)
      clear c5
      have H' := Aside0.mk H
      clear H
      go_enter Try.func4, Try.ntmps4
      go_wp2_with (first | ((with_reducible refine gate_callee (f := 5) rfl ?_); refine goesL_ (some 14) rfl rfl Try.func5 (by kernel_rfl) rfl #[] rfl (by (try simp only [List.map_toArray, List.map_cons, List.map_nil]); first | done | rfl | (simp only [List.length_drop, List.length_take]; rfl) | (simp only [ByteArray.size_append, Int.natCast_add]; rfl)) ?_; (with_reducible refine (letterboxlaw06_awake.calls  true _ A3.out).mono ?_); rintro e w7 ⟨rfl, hb⟩; refine ⟨_, rfl, ?_⟩; have n0_ := Aside0.mk (below_step (by repeat (first | (with_reducible first | exact HB.out | apply below_alloc | apply pw_below_drewN | apply below_drew1) | exact HB.out)) hb); clear HB; have HB := n0_; clear n0_; (try clear hb); (try clear hb2); (try clear hk); (try clear hi)))
      go_loopg [6, 7, 8] k (fun kq v6 v7 v8 w' => ∃ (x6_1 : ByteArray) (x7_1 : ByteArray) (x8_1 : Int), v6 = .string x6_1 ∧ v7 = .string x7_1 ∧ v8 = .int .i64 x8_1 ∧ Aside0 (letterboxlaw06_HeaderFolds.l0 kq l0 a1 x6_1 x7_1 x8_1 = some r) ∧ Aside0 (kq ≤ k) ∧ Aside0 (Below w.heap.size w w'))
      case atStart => exact ⟨((⟨#[88, 45, 66, 101, 102, 111, 114, 101, 58, 32, 49, 13, 10, 83, 117, 98, 106, 101, 99, 116, 58]⟩ : ByteArray)), ((⟨#[]⟩ : ByteArray)), (0), (by first | rfl | (simp; done) | (simp [*]; done)), (by first | rfl | (simp; done) | (simp [*]; done)), (by first | rfl | (simp; done) | (simp [*]; done)), H', ⟨Nat.le_refl _⟩, ⟨by repeat (first | (with_reducible first | exact HB.out | apply below_alloc | apply pw_below_drewN | apply below_drew1) | exact HB.out)⟩⟩
      case round =>
        clear H'
        try clear p2
        try clear c4
        try clear c5
        try clear c5b0
        try clear c5b1
        obtain ⟨x6_1, x7_1, x8_1, rfl, rfl, rfl, HA, HK1, HB⟩ := hrel
        cases gk with
        | zero => exact absurd HA.out (by simp [letterboxlaw06_HeaderFolds.l0])
        | succ k1 =>
          have H := HA.out
          clear HA
          simp only [letterboxlaw06_HeaderFolds.l0] at H
          by_cases c8 : x8_1 < (l0.length : Int)
          · rw [if_pos c8] at H
            have c8b0 : decide (x8_1 < (l0.length : Int)) = true := decide_eq_true c8
            clear c8
            have H' := Aside0.mk H
            clear H
            go_wp2
            go_loopg [9, 10] k1 (fun kq v9 v10 w' => ∃ (x9_2 : ByteArray) (x10_2 : Int), v9 = .string x9_2 ∧ v10 = .int .i64 x10_2 ∧ Aside0 (letterboxlaw06_HeaderFolds.l1 kq l0 a1 x6_1 x7_1 x8_1 x9_2 x10_2 = some r) ∧ Aside0 (kq ≤ k1) ∧ Aside0 (Below w.heap.size w w'))
            case atStart => exact ⟨((⟨#[]⟩ : ByteArray)), (0), (by first | rfl | (simp; done) | (simp [*]; done)), (by first | rfl | (simp; done) | (simp [*]; done)), H', ⟨Nat.le_refl _⟩, ⟨by repeat (first | (with_reducible first | exact HB.out | apply below_alloc | apply pw_below_drewN | apply below_drew1) | exact HB.out)⟩⟩
            case round =>
              clear H'
              try clear p2
              try clear c4
              try clear c5
              try clear c5b0
              try clear c5b1
              try clear c8
              try clear c8b0
              try clear p2
              obtain ⟨x9_2, x10_2, rfl, rfl, HA, HK2, HB⟩ := hrel
              cases gk with
              | zero => exact absurd HA.out (by simp [letterboxlaw06_HeaderFolds.l1])
              | succ k2 =>
                have H := HA.out
                clear HA
                simp only [letterboxlaw06_HeaderFolds.l1] at H
                have HC9 := Aside0.mk H
                clear H
                go_upto_region 13 with (fail)
                go_cut [36] (fun v36 wc => ∃ (kq : Nat) (x36_8 : Bool), v36 = .bool x36_8 ∧ Aside0 (letterboxlaw06_HeaderFolds.j2 kq l0 a1 x6_1 x7_1 x8_1 x9_2 x10_2 x36_8 = some r) ∧ Aside0 (kq ≤ k2) ∧ Aside0 (Below w.heap.size w wc))
                case first =>
                  have H := HC9.out
                  clear HC9
                  by_cases c10 : 0 ≤ x8_1
                  · rw [if_pos c10] at H
                    have c10b0 : decide (0 ≤ x8_1) = true := decide_eq_true c10
                    clear c10
                    (first | rw [c10b0] | (simp only [i64_w, i32_w]; rw [c10b0]) | skip)
                    by_cases c11 : x8_1 < (l0.length : Int)
                    · rw [if_pos c11] at H
                      have c11b0 : decide (x8_1 < (l0.length : Int)) = true := decide_eq_true c11
                      clear c11
                      by_cases c12 : x10_2 < ((rdOf ByteArray.empty l0 x8_1).size : Int)
                      · rw [if_pos c12] at H
                        have c12b0 : decide (x10_2 < ((rdOf ByteArray.empty l0 x8_1).size : Int)) = true := decide_eq_true c12
                        clear c12
                        have H' := Aside0.mk H
                        clear H
                        have p157 : 0 ≤ (x8_1 : Int) := of_decide_eq_true (by first | (with_reducible assumption) | assumption)
                        have q157 : x8_1 < (l0.length : Int) := of_decide_eq_true (by first | (with_reducible assumption) | assumption)
                        obtain ⟨ad157, e157, hx157_0⟩ := Kd.at_string HR0.out x8_1 p157 q157
                        cases e157
                        replace hx157_0 := (HB.out.cell (World.block_lt_of_cell? w _ hx157_0)).trans hx157_0
                        replace p157 := eq_true p157
                        replace q157 := eq_true q157
                        go_wp2
                        go_meet
                        case rel => exact ⟨_, (decide (x10_2 < 20)), (by first | rfl | (simp; done) | (simp [*]; done)), H', ⟨by have := HK1.out; have := HK2.out; first | omega | exact Nat.le_refl _⟩, ⟨by repeat (first | (with_reducible first | exact HB.out | apply below_alloc | apply pw_below_drewN | apply below_drew1) | exact HB.out)⟩⟩
                      · rw [if_neg c12] at H
                        have c12b0 : decide (x10_2 < ((rdOf ByteArray.empty l0 x8_1).size : Int)) = false := decide_eq_false c12
                        clear c12
                        have H' := Aside0.mk H
                        clear H
                        have p157 : 0 ≤ (x8_1 : Int) := of_decide_eq_true (by first | (with_reducible assumption) | assumption)
                        have q157 : x8_1 < (l0.length : Int) := of_decide_eq_true (by first | (with_reducible assumption) | assumption)
                        obtain ⟨ad157, e157, hx157_0⟩ := Kd.at_string HR0.out x8_1 p157 q157
                        cases e157
                        replace hx157_0 := (HB.out.cell (World.block_lt_of_cell? w _ hx157_0)).trans hx157_0
                        replace p157 := eq_true p157
                        replace q157 := eq_true q157
                        go_wp2
                        go_meet
                        case rel => exact ⟨_, (false), (by first | rfl | (simp; done) | (simp [*]; done)), H', ⟨by have := HK1.out; have := HK2.out; first | omega | exact Nat.le_refl _⟩, ⟨by repeat (first | (with_reducible first | exact HB.out | apply below_alloc | apply pw_below_drewN | apply below_drew1) | exact HB.out)⟩⟩
                    · rw [if_neg c11] at H
                      exact absurd H (by simp)
                  · rw [if_neg c10] at H
                    exact absurd H (by simp)
                case rest =>
                  clear HC9
                  try clear c1
                  try clear p1
                  try clear q1
                  try clear hx1
                  try clear p2
                  try clear c4
                  try clear c5
                  try clear c5b0
                  try clear c5b1
                  try clear c8
                  try clear c8b0
                  try clear c10
                  try clear c10b0
                  try clear c11
                  try clear c11b0
                  try clear c12
                  try clear c12b0
                  try clear hx157_0
                  try clear p157
                  try clear p2
                  try clear q157
                  obtain ⟨kq, x36_8, rfl, HA, HJ8, HB⟩ := hcut
                  cases kq with
                  | zero => exact absurd HA.out (by simp [letterboxlaw06_HeaderFolds.j2])
                  | succ kj8 =>
                    have H := HA.out
                    clear HA
                    simp only [letterboxlaw06_HeaderFolds.j2] at H
                    by_cases c13 : x36_8 = true
                    · subst c13
                      have H1 : (if 0 ≤ x8_1 then (if x8_1 < (l0.length : Int) then (if 0 ≤ x10_2 then (if x10_2 < ((rdOf ByteArray.empty l0 x8_1).size : Int) then (if (bt (rdOf ByteArray.empty l0 x8_1) x10_2) > 32 then (if (bt (rdOf ByteArray.empty l0 x8_1) x10_2) < 127 then (if x10_2 ≤ (wrap64 (x10_2 + 1)) then (if (wrap64 (x10_2 + 1)) ≤ ((rdOf ByteArray.empty l0 x8_1).size : Int) then (if x9_2.size + ((rdOf ByteArray.empty l0 x8_1).extract (x10_2 : Int).toNat ((wrap64 (x10_2 + 1)) : Int).toNat).size ≤ 9223372036854775807 then (letterboxlaw06_HeaderFolds.l1 kj8 l0 a1 x6_1 x7_1 x8_1 (x9_2 ++ ((rdOf ByteArray.empty l0 x8_1).extract (x10_2 : Int).toNat ((wrap64 (x10_2 + 1)) : Int).toNat)) (wrap64 (x10_2 + 1))) else (none)) else (none)) else (none)) else (letterboxlaw06_HeaderFolds.l1 kj8 l0 a1 x6_1 x7_1 x8_1 x9_2 (wrap64 (x10_2 + 1)))) else (letterboxlaw06_HeaderFolds.l1 kj8 l0 a1 x6_1 x7_1 x8_1 x9_2 (wrap64 (x10_2 + 1)))) else (none)) else (none)) else (none)) else (none)) = some r := by rw [if_pos rfl] at H; exact H
                      clear H
                      have H := H1
                      clear H1
                      by_cases c14 : 0 ≤ x8_1
                      · rw [if_pos c14] at H
                        have c14b0 : decide (0 ≤ x8_1) = true := decide_eq_true c14
                        clear c14
                        by_cases c15 : x8_1 < (l0.length : Int)
                        · rw [if_pos c15] at H
                          have c15b0 : decide (x8_1 < (l0.length : Int)) = true := decide_eq_true c15
                          clear c15
                          by_cases c16 : 0 ≤ x10_2
                          · rw [if_pos c16] at H
                            have c16b0 : decide (0 ≤ x10_2) = true := decide_eq_true c16
                            clear c16
                            by_cases c17 : x10_2 < ((rdOf ByteArray.empty l0 x8_1).size : Int)
                            · rw [if_pos c17] at H
                              have c17b0 : decide (x10_2 < ((rdOf ByteArray.empty l0 x8_1).size : Int)) = true := decide_eq_true c17
                              clear c17
                              by_cases c19 : (bt (rdOf ByteArray.empty l0 x8_1) x10_2) > 32
                              · rw [if_pos c19] at H
                                have c19b0 : decide (32 < (bt (rdOf ByteArray.empty l0 x8_1) x10_2)) = true := decide_eq_true c19
                                clear c19
                                by_cases c21 : (bt (rdOf ByteArray.empty l0 x8_1) x10_2) < 127
                                · rw [if_pos c21] at H
                                  have c21b0 : decide ((bt (rdOf ByteArray.empty l0 x8_1) x10_2) < 127) = true := decide_eq_true c21
                                  clear c21
                                  have c22b0 := eq_true (of_decide_eq_true (by first | (with_reducible assumption) | assumption) : 0 ≤ x10_2)
                                  by_cases c23 : x10_2 ≤ (wrap64 (x10_2 + 1))
                                  · rw [if_pos c23] at H
                                    have c23b0 := eq_true c23
                                    have c23b1 : decide (x10_2 ≤ (wrap64 (x10_2 + 1))) = true := decide_eq_true c23
                                    by_cases c24 : (wrap64 (x10_2 + 1)) ≤ ((rdOf ByteArray.empty l0 x8_1).size : Int)
                                    · rw [if_pos c24] at H
                                      have c24b0 := eq_true c24
                                      have c24b1 : decide ((wrap64 (x10_2 + 1)) ≤ ((rdOf ByteArray.empty l0 x8_1).size : Int)) = true := decide_eq_true c24
                                      by_cases c25 : x9_2.size + ((rdOf ByteArray.empty l0 x8_1).extract (x10_2 : Int).toNat ((wrap64 (x10_2 + 1)) : Int).toNat).size ≤ 9223372036854775807
                                      · rw [if_pos c25] at H
                                        have c25b0 := eq_true c25
                                        have c25b1 : decide (x9_2.size + ((rdOf ByteArray.empty l0 x8_1).extract (x10_2 : Int).toNat ((wrap64 (x10_2 + 1)) : Int).toNat).size ≤ 9223372036854775807) = true := decide_eq_true c25
                                        try have c25b2 : (9223372036854775807 < x9_2.size + ((rdOf ByteArray.empty l0 x8_1).extract (x10_2 : Int).toNat ((wrap64 (x10_2 + 1)) : Int).toNat).size) = False := eq_false (Nat.not_lt.2 c25)
                                        (try (have c25h := c25; simp only [ByteArray.size_append, ByteArray.size_extract, Int.toNat_natCast, Nat.sub_zero, Nat.min_self, ByteArray.extract_zero_size] at c25h; have c25b7 := eq_false (Nat.not_lt.2 c25h); clear c25h))
                                        try have c25b5 : (9223372036854775807 < x9_2.size + (((wrap64 (x10_2 + 1)) : Int).toNat - (x10_2 : Int).toNat)) = False := eq_false (Nat.not_lt.2 (by have h_ := c25; (try have e0_ : (wrap64 (x10_2 + 1)) ≤ ((rdOf ByteArray.empty l0 x8_1).size : Int) := of_decide_eq_true (by first | (with_reducible assumption) | assumption)); simp only [ByteArray.size_append, ByteArray.size_extract] at h_ ⊢; omega))
                                        have H' := Aside0.mk H
                                        clear H
                                        have p158 : 0 ≤ (x8_1 : Int) := of_decide_eq_true (by first | (with_reducible assumption) | assumption)
                                        have q158 : x8_1 < (l0.length : Int) := of_decide_eq_true (by first | (with_reducible assumption) | assumption)
                                        obtain ⟨ad158, e158, hx158_0⟩ := Kd.at_string HR0.out x8_1 p158 q158
                                        cases e158
                                        replace hx158_0 := (HB.out.cell (World.block_lt_of_cell? w _ hx158_0)).trans hx158_0
                                        replace p158 := eq_true p158
                                        replace q158 := eq_true q158
                                        have p18 : 0 ≤ (x10_2 : Int) := of_decide_eq_true (by first | (with_reducible assumption) | assumption)
                                        have q18 : x10_2 < ((rdOf ByteArray.empty l0 x8_1).size : Int) := of_decide_eq_true (by first | (with_reducible assumption) | assumption)
                                        have hx18 := bt_at (rdOf ByteArray.empty l0 x8_1) x10_2
                                        replace p18 := eq_true p18
                                        replace q18 := eq_true q18
                                        have p159 : 0 ≤ (x8_1 : Int) := of_decide_eq_true (by first | (with_reducible assumption) | assumption)
                                        have q159 : x8_1 < (l0.length : Int) := of_decide_eq_true (by first | (with_reducible assumption) | assumption)
                                        obtain ⟨ad159, e159, hx159_0⟩ := Kd.at_string HR0.out x8_1 p159 q159
                                        obtain rfl : ad158 = ad159 := (by injection e159)
                                        replace hx159_0 := (HB.out.cell (World.block_lt_of_cell? w _ hx159_0)).trans hx159_0
                                        replace p159 := eq_true p159
                                        replace q159 := eq_true q159
                                        have p20 : 0 ≤ (x10_2 : Int) := of_decide_eq_true (by first | (with_reducible assumption) | assumption)
                                        have q20 : x10_2 < ((rdOf ByteArray.empty l0 x8_1).size : Int) := of_decide_eq_true (by first | (with_reducible assumption) | assumption)
                                        have hx20 := bt_at (rdOf ByteArray.empty l0 x8_1) x10_2
                                        replace p20 := eq_true p20
                                        replace q20 := eq_true q20
                                        have p160 : 0 ≤ (x8_1 : Int) := of_decide_eq_true (by first | (with_reducible assumption) | assumption)
                                        have q160 : x8_1 < (l0.length : Int) := of_decide_eq_true (by first | (with_reducible assumption) | assumption)
                                        obtain ⟨ad160, e160, hx160_0⟩ := Kd.at_string HR0.out x8_1 p160 q160
                                        obtain rfl : ad158 = ad160 := (by injection e160)
                                        replace hx160_0 := (HB.out.cell (World.block_lt_of_cell? w _ hx160_0)).trans hx160_0
                                        replace p160 := eq_true p160
                                        replace q160 := eq_true q160
                                        go_wp2
                                        go_roundg kj8
                                        case measure => have := HK1.out; have := HK2.out; have := HJ8.out; omega
                                        case rel => exact ⟨(x9_2 ++ ((rdOf ByteArray.empty l0 x8_1).extract (x10_2 : Int).toNat ((wrap64 (x10_2 + 1)) : Int).toNat)), (wrap64 (x10_2 + 1)), (by first | rfl | (simp; done) | (simp [*]; done)), (by first | rfl | (simp; done) | (simp [*]; done)), H', ⟨by have := HK1.out; have := HK2.out; have := HJ8.out; omega⟩, ⟨by repeat (first | (with_reducible first | exact HB.out | apply below_alloc | apply pw_below_drewN | apply below_drew1) | exact HB.out)⟩⟩
                                      · rw [if_neg c25] at H
                                        exact absurd H (by simp)
                                    · rw [if_neg c24] at H
                                      exact absurd H (by simp)
                                  · rw [if_neg c23] at H
                                    exact absurd H (by simp)
                                · rw [if_neg c21] at H
                                  have c21b0 : decide ((bt (rdOf ByteArray.empty l0 x8_1) x10_2) < 127) = false := decide_eq_false c21
                                  clear c21
                                  have H' := Aside0.mk H
                                  clear H
                                  have p158 : 0 ≤ (x8_1 : Int) := of_decide_eq_true (by first | (with_reducible assumption) | assumption)
                                  have q158 : x8_1 < (l0.length : Int) := of_decide_eq_true (by first | (with_reducible assumption) | assumption)
                                  obtain ⟨ad158, e158, hx158_0⟩ := Kd.at_string HR0.out x8_1 p158 q158
                                  cases e158
                                  replace hx158_0 := (HB.out.cell (World.block_lt_of_cell? w _ hx158_0)).trans hx158_0
                                  replace p158 := eq_true p158
                                  replace q158 := eq_true q158
                                  have p18 : 0 ≤ (x10_2 : Int) := of_decide_eq_true (by first | (with_reducible assumption) | assumption)
                                  have q18 : x10_2 < ((rdOf ByteArray.empty l0 x8_1).size : Int) := of_decide_eq_true (by first | (with_reducible assumption) | assumption)
                                  have hx18 := bt_at (rdOf ByteArray.empty l0 x8_1) x10_2
                                  replace p18 := eq_true p18
                                  replace q18 := eq_true q18
                                  have p159 : 0 ≤ (x8_1 : Int) := of_decide_eq_true (by first | (with_reducible assumption) | assumption)
                                  have q159 : x8_1 < (l0.length : Int) := of_decide_eq_true (by first | (with_reducible assumption) | assumption)
                                  obtain ⟨ad159, e159, hx159_0⟩ := Kd.at_string HR0.out x8_1 p159 q159
                                  obtain rfl : ad158 = ad159 := (by injection e159)
                                  replace hx159_0 := (HB.out.cell (World.block_lt_of_cell? w _ hx159_0)).trans hx159_0
                                  replace p159 := eq_true p159
                                  replace q159 := eq_true q159
                                  have p20 : 0 ≤ (x10_2 : Int) := of_decide_eq_true (by first | (with_reducible assumption) | assumption)
                                  have q20 : x10_2 < ((rdOf ByteArray.empty l0 x8_1).size : Int) := of_decide_eq_true (by first | (with_reducible assumption) | assumption)
                                  have hx20 := bt_at (rdOf ByteArray.empty l0 x8_1) x10_2
                                  replace p20 := eq_true p20
                                  replace q20 := eq_true q20
                                  go_wp2
                                  go_roundg kj8
                                  case measure => have := HK1.out; have := HK2.out; have := HJ8.out; omega
                                  case rel => exact ⟨(x9_2), (wrap64 (x10_2 + 1)), (by first | rfl | (simp; done) | (simp [*]; done)), (by first | rfl | (simp; done) | (simp [*]; done)), H', ⟨by have := HK1.out; have := HK2.out; have := HJ8.out; omega⟩, ⟨by repeat (first | (with_reducible first | exact HB.out | apply below_alloc | apply pw_below_drewN | apply below_drew1) | exact HB.out)⟩⟩
                              · rw [if_neg c19] at H
                                have c19b0 : decide (32 < (bt (rdOf ByteArray.empty l0 x8_1) x10_2)) = false := decide_eq_false c19
                                clear c19
                                have H' := Aside0.mk H
                                clear H
                                have p158 : 0 ≤ (x8_1 : Int) := of_decide_eq_true (by first | (with_reducible assumption) | assumption)
                                have q158 : x8_1 < (l0.length : Int) := of_decide_eq_true (by first | (with_reducible assumption) | assumption)
                                obtain ⟨ad158, e158, hx158_0⟩ := Kd.at_string HR0.out x8_1 p158 q158
                                cases e158
                                replace hx158_0 := (HB.out.cell (World.block_lt_of_cell? w _ hx158_0)).trans hx158_0
                                replace p158 := eq_true p158
                                replace q158 := eq_true q158
                                have p18 : 0 ≤ (x10_2 : Int) := of_decide_eq_true (by first | (with_reducible assumption) | assumption)
                                have q18 : x10_2 < ((rdOf ByteArray.empty l0 x8_1).size : Int) := of_decide_eq_true (by first | (with_reducible assumption) | assumption)
                                have hx18 := bt_at (rdOf ByteArray.empty l0 x8_1) x10_2
                                replace p18 := eq_true p18
                                replace q18 := eq_true q18
                                go_wp2
                                go_roundg kj8
                                case measure => have := HK1.out; have := HK2.out; have := HJ8.out; omega
                                case rel => exact ⟨(x9_2), (wrap64 (x10_2 + 1)), (by first | rfl | (simp; done) | (simp [*]; done)), (by first | rfl | (simp; done) | (simp [*]; done)), H', ⟨by have := HK1.out; have := HK2.out; have := HJ8.out; omega⟩, ⟨by repeat (first | (with_reducible first | exact HB.out | apply below_alloc | apply pw_below_drewN | apply below_drew1) | exact HB.out)⟩⟩
                            · rw [if_neg c17] at H
                              exact absurd H (by simp)
                          · rw [if_neg c16] at H
                            exact absurd H (by simp)
                        · rw [if_neg c15] at H
                          exact absurd H (by simp)
                      · rw [if_neg c14] at H
                        exact absurd H (by simp)
                    · replace c13 := Bool.eq_false_iff.mpr c13
                      subst c13
                      have H1 : (if x9_2.toList = ([] : List UInt8) then (if 1 + 1 ≤ 9223372036854775807 then (if 1 + 2 ≤ 9223372036854775807 then (if x6_1.size + (((⟨#[32]⟩ : ByteArray) ++ (⟨#[120]⟩ : ByteArray)) ++ (⟨#[13, 10]⟩ : ByteArray)).size ≤ 9223372036854775807 then (if x7_1.toList = ([] : List UInt8) then (if x7_1.size + 1 ≤ 9223372036854775807 then (letterboxlaw06_HeaderFolds.l0 kj8 l0 a1 (x6_1 ++ (((⟨#[32]⟩ : ByteArray) ++ (⟨#[120]⟩ : ByteArray)) ++ (⟨#[13, 10]⟩ : ByteArray))) (x7_1 ++ (⟨#[120]⟩ : ByteArray)) (wrap64 (x8_1 + 1))) else (none)) else (if x7_1.size + 1 ≤ 9223372036854775807 then (if (x7_1 ++ (⟨#[32]⟩ : ByteArray)).size + 1 ≤ 9223372036854775807 then (letterboxlaw06_HeaderFolds.l0 kj8 l0 a1 (x6_1 ++ (((⟨#[32]⟩ : ByteArray) ++ (⟨#[120]⟩ : ByteArray)) ++ (⟨#[13, 10]⟩ : ByteArray))) ((x7_1 ++ (⟨#[32]⟩ : ByteArray)) ++ (⟨#[120]⟩ : ByteArray)) (wrap64 (x8_1 + 1))) else (none)) else (none))) else (none)) else (none)) else (none)) else (if 1 + x9_2.size ≤ 9223372036854775807 then (if ((⟨#[32]⟩ : ByteArray) ++ x9_2).size + 2 ≤ 9223372036854775807 then (if x6_1.size + (((⟨#[32]⟩ : ByteArray) ++ x9_2) ++ (⟨#[13, 10]⟩ : ByteArray)).size ≤ 9223372036854775807 then (if x7_1.toList = ([] : List UInt8) then (if x7_1.size + x9_2.size ≤ 9223372036854775807 then (letterboxlaw06_HeaderFolds.l0 kj8 l0 a1 (x6_1 ++ (((⟨#[32]⟩ : ByteArray) ++ x9_2) ++ (⟨#[13, 10]⟩ : ByteArray))) (x7_1 ++ x9_2) (wrap64 (x8_1 + 1))) else (none)) else (if x7_1.size + 1 ≤ 9223372036854775807 then (if (x7_1 ++ (⟨#[32]⟩ : ByteArray)).size + x9_2.size ≤ 9223372036854775807 then (letterboxlaw06_HeaderFolds.l0 kj8 l0 a1 (x6_1 ++ (((⟨#[32]⟩ : ByteArray) ++ x9_2) ++ (⟨#[13, 10]⟩ : ByteArray))) ((x7_1 ++ (⟨#[32]⟩ : ByteArray)) ++ x9_2) (wrap64 (x8_1 + 1))) else (none)) else (none))) else (none)) else (none)) else (none))) = some r := by rw [if_neg (show ¬ (false = true) by decide)] at H; exact H
                      clear H
                      have H := H1
                      clear H1
                      by_cases c26 : x9_2.toList = ([] : List UInt8)
                      · rw [if_pos c26] at H
                        have c26b0 : (x9_2.toList == ([] : List UInt8)) = true := beq_iff_eq.mpr c26
                        have c26b1 : (x9_2.toList != ([] : List UInt8)) = false := bne_eq_false_iff_eq.mpr c26
                        clear c26
                        by_cases c27 : 1 + 1 ≤ 9223372036854775807
                        · rw [if_pos c27] at H
                          have c27b0 := eq_true c27
                          have c27b1 : decide (1 + 1 ≤ 9223372036854775807) = true := decide_eq_true c27
                          try have c27b2 : (9223372036854775807 < 1 + 1) = False := eq_false (Nat.not_lt.2 c27)
                          by_cases c28 : 1 + 2 ≤ 9223372036854775807
                          · rw [if_pos c28] at H
                            have c28b0 := eq_true c28
                            have c28b1 : decide (1 + 2 ≤ 9223372036854775807) = true := decide_eq_true c28
                            try have c28b2 : (9223372036854775807 < 1 + 2) = False := eq_false (Nat.not_lt.2 c28)
                            by_cases c29 : x6_1.size + (((⟨#[32]⟩ : ByteArray) ++ (⟨#[120]⟩ : ByteArray)) ++ (⟨#[13, 10]⟩ : ByteArray)).size ≤ 9223372036854775807
                            · rw [if_pos c29] at H
                              have c29b0 := eq_true c29
                              (try have c29z0 := c29b0); (try simp only [ByteArray.size_append, Int.natCast_add, Int.cast_ofNat_Int, show (⟨#[120]⟩ : ByteArray).size = 1 from rfl, show (⟨#[13, 10]⟩ : ByteArray).size = 2 from rfl, show (⟨#[32]⟩ : ByteArray).size = 1 from rfl] at c29z0)
                              have c29b1 : decide (x6_1.size + (((⟨#[32]⟩ : ByteArray) ++ (⟨#[120]⟩ : ByteArray)) ++ (⟨#[13, 10]⟩ : ByteArray)).size ≤ 9223372036854775807) = true := decide_eq_true c29
                              (try have c29z1 := c29b1); (try simp only [ByteArray.size_append, Int.natCast_add, Int.cast_ofNat_Int, show (⟨#[120]⟩ : ByteArray).size = 1 from rfl, show (⟨#[13, 10]⟩ : ByteArray).size = 2 from rfl, show (⟨#[32]⟩ : ByteArray).size = 1 from rfl] at c29z1)
                              try have c29b2 : (9223372036854775807 < x6_1.size + (((⟨#[32]⟩ : ByteArray) ++ (⟨#[120]⟩ : ByteArray)) ++ (⟨#[13, 10]⟩ : ByteArray)).size) = False := eq_false (Nat.not_lt.2 c29)
                              try have c29b4 : (9223372036854775807 < x6_1.size + (1 + 1 + 2)) = False := eq_false (Nat.not_lt.2 (by have h_ := c29; simp only [ByteArray.size_append] at h_; exact h_))
                              by_cases c30 : x7_1.toList = ([] : List UInt8)
                              · rw [if_pos c30] at H
                                have c30b0 : (x7_1.toList == ([] : List UInt8)) = true := beq_iff_eq.mpr c30
                                have c30b1 : (x7_1.toList != ([] : List UInt8)) = false := bne_eq_false_iff_eq.mpr c30
                                clear c30
                                by_cases c31 : x7_1.size + 1 ≤ 9223372036854775807
                                · rw [if_pos c31] at H
                                  have c31b0 := eq_true c31
                                  have c31b1 : decide (x7_1.size + 1 ≤ 9223372036854775807) = true := decide_eq_true c31
                                  try have c31b2 : (9223372036854775807 < x7_1.size + 1) = False := eq_false (Nat.not_lt.2 c31)
                                  have H' := Aside0.mk H
                                  clear H
                                  go_wp2
                                  go_roundg kj8
                                  case measure => have := HK1.out; have := HK2.out; have := HJ8.out; omega
                                  case rel => exact ⟨(x6_1 ++ (((⟨#[32]⟩ : ByteArray) ++ (⟨#[120]⟩ : ByteArray)) ++ (⟨#[13, 10]⟩ : ByteArray))), (x7_1 ++ (⟨#[120]⟩ : ByteArray)), (wrap64 (x8_1 + 1)), (by first | rfl | (simp; done) | (simp [*]; done)), (by first | rfl | (simp; done) | (simp [*]; done)), (by first | rfl | (simp; done) | (simp [*]; done)), H', ⟨by have := HK1.out; have := HK2.out; have := HJ8.out; omega⟩, ⟨by repeat (first | (with_reducible first | exact HB.out | apply below_alloc | apply pw_below_drewN | apply below_drew1) | exact HB.out)⟩⟩
                                · rw [if_neg c31] at H
                                  exact absurd H (by simp)
                              · rw [if_neg c30] at H
                                have c30b0 : (x7_1.toList == ([] : List UInt8)) = false := beq_eq_false_iff_ne.mpr c30
                                have c30b1 : (x7_1.toList != ([] : List UInt8)) = true := bne_iff_ne.mpr c30
                                by_cases c32 : x7_1.size + 1 ≤ 9223372036854775807
                                · rw [if_pos c32] at H
                                  have c32b0 := eq_true c32
                                  have c32b1 : decide (x7_1.size + 1 ≤ 9223372036854775807) = true := decide_eq_true c32
                                  try have c32b2 : (9223372036854775807 < x7_1.size + 1) = False := eq_false (Nat.not_lt.2 c32)
                                  by_cases c33 : (x7_1 ++ (⟨#[32]⟩ : ByteArray)).size + 1 ≤ 9223372036854775807
                                  · rw [if_pos c33] at H
                                    have c33b0 := eq_true c33
                                    (try have c33z0 := c33b0); (try simp only [ByteArray.size_append, Int.natCast_add, Int.cast_ofNat_Int, show (⟨#[32]⟩ : ByteArray).size = 1 from rfl] at c33z0)
                                    have c33b1 : decide ((x7_1 ++ (⟨#[32]⟩ : ByteArray)).size + 1 ≤ 9223372036854775807) = true := decide_eq_true c33
                                    (try have c33z1 := c33b1); (try simp only [ByteArray.size_append, Int.natCast_add, Int.cast_ofNat_Int, show (⟨#[32]⟩ : ByteArray).size = 1 from rfl] at c33z1)
                                    try have c33b2 : (9223372036854775807 < (x7_1 ++ (⟨#[32]⟩ : ByteArray)).size + 1) = False := eq_false (Nat.not_lt.2 c33)
                                    try have c33b4 : (9223372036854775807 < x7_1.size + 1 + 1) = False := eq_false (Nat.not_lt.2 (by have h_ := c33; simp only [ByteArray.size_append] at h_; exact h_))
                                    have H' := Aside0.mk H
                                    clear H
                                    go_wp2
                                    go_roundg kj8
                                    case measure => have := HK1.out; have := HK2.out; have := HJ8.out; omega
                                    case rel => exact ⟨(x6_1 ++ (((⟨#[32]⟩ : ByteArray) ++ (⟨#[120]⟩ : ByteArray)) ++ (⟨#[13, 10]⟩ : ByteArray))), ((x7_1 ++ (⟨#[32]⟩ : ByteArray)) ++ (⟨#[120]⟩ : ByteArray)), (wrap64 (x8_1 + 1)), (by first | rfl | (simp; done) | (simp [*]; done)), (by first | rfl | (simp; done) | (simp [*]; done)), (by first | rfl | (simp; done) | (simp [*]; done)), H', ⟨by have := HK1.out; have := HK2.out; have := HJ8.out; omega⟩, ⟨by repeat (first | (with_reducible first | exact HB.out | apply below_alloc | apply pw_below_drewN | apply below_drew1) | exact HB.out)⟩⟩
                                  · rw [if_neg c33] at H
                                    exact absurd H (by simp)
                                · rw [if_neg c32] at H
                                  exact absurd H (by simp)
                            · rw [if_neg c29] at H
                              exact absurd H (by simp)
                          · rw [if_neg c28] at H
                            exact absurd H (by simp)
                        · rw [if_neg c27] at H
                          exact absurd H (by simp)
                      · rw [if_neg c26] at H
                        have c26b0 : (x9_2.toList == ([] : List UInt8)) = false := beq_eq_false_iff_ne.mpr c26
                        have c26b1 : (x9_2.toList != ([] : List UInt8)) = true := bne_iff_ne.mpr c26
                        by_cases c34 : 1 + x9_2.size ≤ 9223372036854775807
                        · rw [if_pos c34] at H
                          have c34b0 := eq_true c34
                          have c34b1 : decide (1 + x9_2.size ≤ 9223372036854775807) = true := decide_eq_true c34
                          try have c34b2 : (9223372036854775807 < 1 + x9_2.size) = False := eq_false (Nat.not_lt.2 c34)
                          by_cases c35 : ((⟨#[32]⟩ : ByteArray) ++ x9_2).size + 2 ≤ 9223372036854775807
                          · rw [if_pos c35] at H
                            have c35b0 := eq_true c35
                            (try have c35z0 := c35b0); (try simp only [ByteArray.size_append, Int.natCast_add, Int.cast_ofNat_Int, show (⟨#[32]⟩ : ByteArray).size = 1 from rfl] at c35z0)
                            have c35b1 : decide (((⟨#[32]⟩ : ByteArray) ++ x9_2).size + 2 ≤ 9223372036854775807) = true := decide_eq_true c35
                            (try have c35z1 := c35b1); (try simp only [ByteArray.size_append, Int.natCast_add, Int.cast_ofNat_Int, show (⟨#[32]⟩ : ByteArray).size = 1 from rfl] at c35z1)
                            try have c35b2 : (9223372036854775807 < ((⟨#[32]⟩ : ByteArray) ++ x9_2).size + 2) = False := eq_false (Nat.not_lt.2 c35)
                            try have c35b4 : (9223372036854775807 < 1 + x9_2.size + 2) = False := eq_false (Nat.not_lt.2 (by have h_ := c35; simp only [ByteArray.size_append] at h_; exact h_))
                            by_cases c36 : x6_1.size + (((⟨#[32]⟩ : ByteArray) ++ x9_2) ++ (⟨#[13, 10]⟩ : ByteArray)).size ≤ 9223372036854775807
                            · rw [if_pos c36] at H
                              have c36b0 := eq_true c36
                              (try have c36z0 := c36b0); (try simp only [ByteArray.size_append, Int.natCast_add, Int.cast_ofNat_Int, show (⟨#[13, 10]⟩ : ByteArray).size = 2 from rfl, show (⟨#[32]⟩ : ByteArray).size = 1 from rfl] at c36z0)
                              have c36b1 : decide (x6_1.size + (((⟨#[32]⟩ : ByteArray) ++ x9_2) ++ (⟨#[13, 10]⟩ : ByteArray)).size ≤ 9223372036854775807) = true := decide_eq_true c36
                              (try have c36z1 := c36b1); (try simp only [ByteArray.size_append, Int.natCast_add, Int.cast_ofNat_Int, show (⟨#[13, 10]⟩ : ByteArray).size = 2 from rfl, show (⟨#[32]⟩ : ByteArray).size = 1 from rfl] at c36z1)
                              try have c36b2 : (9223372036854775807 < x6_1.size + (((⟨#[32]⟩ : ByteArray) ++ x9_2) ++ (⟨#[13, 10]⟩ : ByteArray)).size) = False := eq_false (Nat.not_lt.2 c36)
                              try have c36b4 : (9223372036854775807 < x6_1.size + (1 + x9_2.size + 2)) = False := eq_false (Nat.not_lt.2 (by have h_ := c36; simp only [ByteArray.size_append] at h_; exact h_))
                              by_cases c37 : x7_1.toList = ([] : List UInt8)
                              · rw [if_pos c37] at H
                                have c37b0 : (x7_1.toList == ([] : List UInt8)) = true := beq_iff_eq.mpr c37
                                have c37b1 : (x7_1.toList != ([] : List UInt8)) = false := bne_eq_false_iff_eq.mpr c37
                                clear c37
                                by_cases c38 : x7_1.size + x9_2.size ≤ 9223372036854775807
                                · rw [if_pos c38] at H
                                  have c38b0 := eq_true c38
                                  have c38b1 : decide (x7_1.size + x9_2.size ≤ 9223372036854775807) = true := decide_eq_true c38
                                  try have c38b2 : (9223372036854775807 < x7_1.size + x9_2.size) = False := eq_false (Nat.not_lt.2 c38)
                                  have H' := Aside0.mk H
                                  clear H
                                  go_wp2
                                  go_roundg kj8
                                  case measure => have := HK1.out; have := HK2.out; have := HJ8.out; omega
                                  case rel => exact ⟨(x6_1 ++ (((⟨#[32]⟩ : ByteArray) ++ x9_2) ++ (⟨#[13, 10]⟩ : ByteArray))), (x7_1 ++ x9_2), (wrap64 (x8_1 + 1)), (by first | rfl | (simp; done) | (simp [*]; done)), (by first | rfl | (simp; done) | (simp [*]; done)), (by first | rfl | (simp; done) | (simp [*]; done)), H', ⟨by have := HK1.out; have := HK2.out; have := HJ8.out; omega⟩, ⟨by repeat (first | (with_reducible first | exact HB.out | apply below_alloc | apply pw_below_drewN | apply below_drew1) | exact HB.out)⟩⟩
                                · rw [if_neg c38] at H
                                  exact absurd H (by simp)
                              · rw [if_neg c37] at H
                                have c37b0 : (x7_1.toList == ([] : List UInt8)) = false := beq_eq_false_iff_ne.mpr c37
                                have c37b1 : (x7_1.toList != ([] : List UInt8)) = true := bne_iff_ne.mpr c37
                                by_cases c39 : x7_1.size + 1 ≤ 9223372036854775807
                                · rw [if_pos c39] at H
                                  have c39b0 := eq_true c39
                                  have c39b1 : decide (x7_1.size + 1 ≤ 9223372036854775807) = true := decide_eq_true c39
                                  try have c39b2 : (9223372036854775807 < x7_1.size + 1) = False := eq_false (Nat.not_lt.2 c39)
                                  by_cases c40 : (x7_1 ++ (⟨#[32]⟩ : ByteArray)).size + x9_2.size ≤ 9223372036854775807
                                  · rw [if_pos c40] at H
                                    have c40b0 := eq_true c40
                                    (try have c40z0 := c40b0); (try simp only [ByteArray.size_append, Int.natCast_add, Int.cast_ofNat_Int, show (⟨#[32]⟩ : ByteArray).size = 1 from rfl] at c40z0)
                                    have c40b1 : decide ((x7_1 ++ (⟨#[32]⟩ : ByteArray)).size + x9_2.size ≤ 9223372036854775807) = true := decide_eq_true c40
                                    (try have c40z1 := c40b1); (try simp only [ByteArray.size_append, Int.natCast_add, Int.cast_ofNat_Int, show (⟨#[32]⟩ : ByteArray).size = 1 from rfl] at c40z1)
                                    try have c40b2 : (9223372036854775807 < (x7_1 ++ (⟨#[32]⟩ : ByteArray)).size + x9_2.size) = False := eq_false (Nat.not_lt.2 c40)
                                    try have c40b4 : (9223372036854775807 < x7_1.size + 1 + x9_2.size) = False := eq_false (Nat.not_lt.2 (by have h_ := c40; simp only [ByteArray.size_append] at h_; exact h_))
                                    have H' := Aside0.mk H
                                    clear H
                                    go_wp2
                                    go_roundg kj8
                                    case measure => have := HK1.out; have := HK2.out; have := HJ8.out; omega
                                    case rel => exact ⟨(x6_1 ++ (((⟨#[32]⟩ : ByteArray) ++ x9_2) ++ (⟨#[13, 10]⟩ : ByteArray))), ((x7_1 ++ (⟨#[32]⟩ : ByteArray)) ++ x9_2), (wrap64 (x8_1 + 1)), (by first | rfl | (simp; done) | (simp [*]; done)), (by first | rfl | (simp; done) | (simp [*]; done)), (by first | rfl | (simp; done) | (simp [*]; done)), H', ⟨by have := HK1.out; have := HK2.out; have := HJ8.out; omega⟩, ⟨by repeat (first | (with_reducible first | exact HB.out | apply below_alloc | apply pw_below_drewN | apply below_drew1) | exact HB.out)⟩⟩
                                  · rw [if_neg c40] at H
                                    exact absurd H (by simp)
                                · rw [if_neg c39] at H
                                  exact absurd H (by simp)
                            · rw [if_neg c36] at H
                              exact absurd H (by simp)
                          · rw [if_neg c35] at H
                            exact absurd H (by simp)
                        · rw [if_neg c34] at H
                          exact absurd H (by simp)
          · rw [if_neg c8] at H
            have c8b0 : decide (x8_1 < (l0.length : Int)) = false := decide_eq_false c8
            clear c8
            have HC41 := Aside0.mk H
            clear H
            go_upto_if 81 with (fail)
            go_cut [6] (fun v6 wc => ∃ (kq : Nat) (x6_40 : ByteArray), v6 = .string x6_40 ∧ Aside0 (letterboxlaw06_HeaderFolds.j3 kq a1 x6_40 x7_1 = some r) ∧ Aside0 (kq ≤ k1) ∧ Aside0 (Below w.heap.size w wc))
            case first =>
              have H := HC41.out
              clear HC41
              by_cases c42 : (l0.length : Int) = 0
              · rw [if_pos c42] at H
                have c42b0 : ((l0.length : Int) == 0) = true := beq_iff_eq.mpr c42
                have c42b1 : ((l0.length : Int) != 0) = false := bne_eq_false_iff_eq.mpr c42
                clear c42
                (first | rw [c42b0] | (simp only [i64_w, i32_w]; rw [c42b0]) | skip)
                by_cases c43 : x6_1.size + 2 ≤ 9223372036854775807
                · rw [if_pos c43] at H
                  have c43b0 := eq_true c43
                  have c43b1 : decide (x6_1.size + 2 ≤ 9223372036854775807) = true := decide_eq_true c43
                  try have c43b2 : (9223372036854775807 < x6_1.size + 2) = False := eq_false (Nat.not_lt.2 c43)
                  have H' := Aside0.mk H
                  clear H
                  go_wp2
                  go_meet
                  case rel => exact ⟨_, (x6_1 ++ (⟨#[13, 10]⟩ : ByteArray)), (by first | rfl | (simp; done) | (simp [*]; done)), H', ⟨by have := HK1.out; first | omega | exact Nat.le_refl _⟩, ⟨by repeat (first | (with_reducible first | exact HB.out | apply below_alloc | apply pw_below_drewN | apply below_drew1) | exact HB.out)⟩⟩
                · rw [if_neg c43] at H
                  exact absurd H (by simp)
              · rw [if_neg c42] at H
                have c42b0 : ((l0.length : Int) == 0) = false := beq_eq_false_iff_ne.mpr c42
                have c42b1 : ((l0.length : Int) != 0) = true := bne_iff_ne.mpr c42
                have c42b2 : ¬ (l0 = []) := fun h_ => c42 (by rw [h_]; rfl)
                (first | rw [c42b0] | (simp only [i64_w, i32_w]; rw [c42b0]) | skip)
                have H' := Aside0.mk H
                clear H
                go_wp2
                go_meet
                case rel => exact ⟨_, (x6_1), (by first | rfl | (simp; done) | (simp [*]; done)), H', ⟨by have := HK1.out; first | omega | exact Nat.le_refl _⟩, ⟨by repeat (first | (with_reducible first | exact HB.out | apply below_alloc | apply pw_below_drewN | apply below_drew1) | exact HB.out)⟩⟩
            case rest =>
              clear HC41
              try clear c1
              try clear p1
              try clear q1
              try clear hx1
              try clear c2
              try clear p2
              try clear q2
              try clear hx2
              try clear c3
              try clear c4
              try clear c5
              try clear c5b0
              try clear c5b1
              try clear p6
              try clear c8
              try clear c8b0
              try clear c10
              try clear c10b0
              try clear c11
              try clear c11b0
              try clear c12
              try clear c12b0
              try clear c13
              try clear c14
              try clear c14b0
              try clear c15
              try clear c15b0
              try clear p15
              try clear q15
              try clear hx15
              try clear c16
              try clear c16b0
              try clear p16
              try clear q16
              try clear hx16
              try clear c17
              try clear c17b0
              try clear p18
              try clear q18
              try clear hx18
              try clear c19
              try clear c19b0
              try clear p20
              try clear q20
              try clear hx20
              try clear c21
              try clear c21b0
              try clear c22
              try clear c22b0
              try clear c23
              try clear c23b0
              try clear c23b1
              try clear c24
              try clear c24b0
              try clear c24b1
              try clear c25
              try clear c25b0
              try clear c25b1
              try clear c25b2
              try clear c26
              try clear c26b0
              try clear c26b1
              try clear c27
              try clear c27b0
              try clear c27b1
              try clear c27b2
              try clear c28
              try clear c28b0
              try clear c28b1
              try clear c28b2
              try clear c29
              try clear c29b0
              try clear c29b1
              try clear c29b2
              try clear c30
              try clear c30b0
              try clear c30b1
              try clear c31
              try clear c31b0
              try clear c31b1
              try clear c31b2
              try clear c32
              try clear c32b0
              try clear c32b1
              try clear c32b2
              try clear c33
              try clear c33b0
              try clear c33b1
              try clear c33b2
              try clear c34
              try clear c34b0
              try clear c34b1
              try clear c34b2
              try clear c35
              try clear c35b0
              try clear c35b1
              try clear c35b2
              try clear c36
              try clear c36b0
              try clear c36b1
              try clear c36b2
              try clear c37
              try clear c37b0
              try clear c37b1
              try clear c38
              try clear c38b0
              try clear c38b1
              try clear c38b2
              try clear c39
              try clear c39b0
              try clear c39b1
              try clear c39b2
              try clear c40
              try clear c40b0
              try clear c40b1
              try clear c40b2
              try clear c42
              try clear c42b0
              try clear c42b1
              try clear c42b2
              try clear c43
              try clear c43b0
              try clear c43b1
              try clear c43b2
              try clear hx157_0
              try clear hx158_0
              try clear hx159_0
              try clear hx160_0
              try clear p1
              try clear p157
              try clear p158
              try clear p159
              try clear p160
              try clear p18
              try clear p2
              try clear p20
              try clear q1
              try clear q157
              try clear q158
              try clear q159
              try clear q160
              try clear q18
              try clear q20
              obtain ⟨kq, x6_40, rfl, HA, HJ40, HB⟩ := hcut
              cases kq with
              | zero => exact absurd HA.out (by simp [letterboxlaw06_HeaderFolds.j3])
              | succ kj40 =>
                have H := HA.out
                clear HA
                simp only [letterboxlaw06_HeaderFolds.j3] at H
                by_cases c44 : x6_40.size + 18 ≤ 9223372036854775807
                · rw [if_pos c44] at H
                  have c44b0 := eq_true c44
                  have c44b1 : decide (x6_40.size + 18 ≤ 9223372036854775807) = true := decide_eq_true c44
                  try have c44b2 : (9223372036854775807 < x6_40.size + 18) = False := eq_false (Nat.not_lt.2 c44)
                  have HC45 := Aside0.mk H
                  clear H
                  go_upto_if 86 with (fail)
                  go_cut [11] (fun v11 wc => ∃ (kq : Nat) (x11_44 : ByteArray), v11 = .string x11_44 ∧ Aside0 (letterboxlaw06_HeaderFolds.j4 kq (x6_40 ++ (⟨#[88, 45, 65, 102, 116, 101, 114, 58, 32, 50, 13, 10, 13, 10, 98, 111, 100, 121]⟩ : ByteArray)) x7_1 x11_44 = some r) ∧ Aside0 (kq ≤ kj40) ∧ Aside0 (Below w.heap.size w wc))
                  case first =>
                    have H := HC45.out
                    clear HC45
                    by_cases c46 : a1 = true
                    · subst c46
                      have H1 : (letterboxlaw06_HeaderFolds.j4 kj40 (x6_40 ++ (⟨#[88, 45, 65, 102, 116, 101, 114, 58, 32, 50, 13, 10, 13, 10, 98, 111, 100, 121]⟩ : ByteArray)) x7_1 (⟨#[83, 85, 66, 74, 69, 67, 84]⟩ : ByteArray)) = some r := by rw [if_pos rfl] at H; exact H
                      clear H
                      have H := H1
                      clear H1
                      have H' := Aside0.mk H
                      clear H
                      go_wp2
                      go_meet
                      case rel => exact ⟨_, ((⟨#[83, 85, 66, 74, 69, 67, 84]⟩ : ByteArray)), (by first | rfl | (simp; done) | (simp [*]; done)), H', ⟨by have := HK1.out; have := HJ40.out; first | omega | exact Nat.le_refl _⟩, ⟨by repeat (first | (with_reducible first | exact HB.out | apply below_alloc | apply pw_below_drewN | apply below_drew1) | exact HB.out)⟩⟩
                    · replace c46 := Bool.eq_false_iff.mpr c46
                      subst c46
                      have H1 : (letterboxlaw06_HeaderFolds.j4 kj40 (x6_40 ++ (⟨#[88, 45, 65, 102, 116, 101, 114, 58, 32, 50, 13, 10, 13, 10, 98, 111, 100, 121]⟩ : ByteArray)) x7_1 (⟨#[115, 117, 98, 106, 101, 99, 116]⟩ : ByteArray)) = some r := by rw [if_neg (show ¬ (false = true) by decide)] at H; exact H
                      clear H
                      have H := H1
                      clear H1
                      have H' := Aside0.mk H
                      clear H
                      go_wp2
                      go_meet
                      case rel => exact ⟨_, ((⟨#[115, 117, 98, 106, 101, 99, 116]⟩ : ByteArray)), (by first | rfl | (simp; done) | (simp [*]; done)), H', ⟨by have := HK1.out; have := HJ40.out; first | omega | exact Nat.le_refl _⟩, ⟨by repeat (first | (with_reducible first | exact HB.out | apply below_alloc | apply pw_below_drewN | apply below_drew1) | exact HB.out)⟩⟩
                  case rest =>
                    clear HC45
                    try clear c1
                    try clear p1
                    try clear q1
                    try clear hx1
                    try clear c2
                    try clear p2
                    try clear q2
                    try clear hx2
                    try clear c3
                    try clear c4
                    try clear c5
                    try clear c5b0
                    try clear c5b1
                    try clear p6
                    try clear c8
                    try clear c8b0
                    try clear c10
                    try clear c10b0
                    try clear c11
                    try clear c11b0
                    try clear c12
                    try clear c12b0
                    try clear c13
                    try clear c14
                    try clear c14b0
                    try clear c15
                    try clear c15b0
                    try clear p15
                    try clear q15
                    try clear hx15
                    try clear c16
                    try clear c16b0
                    try clear p16
                    try clear q16
                    try clear hx16
                    try clear c17
                    try clear c17b0
                    try clear p18
                    try clear q18
                    try clear hx18
                    try clear c19
                    try clear c19b0
                    try clear p20
                    try clear q20
                    try clear hx20
                    try clear c21
                    try clear c21b0
                    try clear c22
                    try clear c22b0
                    try clear c23
                    try clear c23b0
                    try clear c23b1
                    try clear c24
                    try clear c24b0
                    try clear c24b1
                    try clear c25
                    try clear c25b0
                    try clear c25b1
                    try clear c25b2
                    try clear c26
                    try clear c26b0
                    try clear c26b1
                    try clear c27
                    try clear c27b0
                    try clear c27b1
                    try clear c27b2
                    try clear c28
                    try clear c28b0
                    try clear c28b1
                    try clear c28b2
                    try clear c29
                    try clear c29b0
                    try clear c29b1
                    try clear c29b2
                    try clear c30
                    try clear c30b0
                    try clear c30b1
                    try clear c31
                    try clear c31b0
                    try clear c31b1
                    try clear c31b2
                    try clear c32
                    try clear c32b0
                    try clear c32b1
                    try clear c32b2
                    try clear c33
                    try clear c33b0
                    try clear c33b1
                    try clear c33b2
                    try clear c34
                    try clear c34b0
                    try clear c34b1
                    try clear c34b2
                    try clear c35
                    try clear c35b0
                    try clear c35b1
                    try clear c35b2
                    try clear c36
                    try clear c36b0
                    try clear c36b1
                    try clear c36b2
                    try clear c37
                    try clear c37b0
                    try clear c37b1
                    try clear c38
                    try clear c38b0
                    try clear c38b1
                    try clear c38b2
                    try clear c39
                    try clear c39b0
                    try clear c39b1
                    try clear c39b2
                    try clear c40
                    try clear c40b0
                    try clear c40b1
                    try clear c40b2
                    try clear c42
                    try clear c42b0
                    try clear c42b1
                    try clear c42b2
                    try clear c43
                    try clear c43b0
                    try clear c43b1
                    try clear c43b2
                    try clear c44
                    try clear c44b0
                    try clear c44b1
                    try clear c44b2
                    try clear c46
                    try clear hx157_0
                    try clear hx158_0
                    try clear hx159_0
                    try clear hx160_0
                    try clear p1
                    try clear p15
                    try clear p157
                    try clear p158
                    try clear p159
                    try clear p16
                    try clear p160
                    try clear p18
                    try clear p2
                    try clear p20
                    try clear p6
                    try clear q1
                    try clear q15
                    try clear q157
                    try clear q158
                    try clear q159
                    try clear q16
                    try clear q160
                    try clear q18
                    try clear q2
                    try clear q20
                    obtain ⟨kq, x11_44, rfl, HA, HJ44, HB⟩ := hcut
                    cases kq with
                    | zero => exact absurd HA.out (by simp [letterboxlaw06_HeaderFolds.j4])
                    | succ kj44 =>
                      have H := HA.out
                      clear HA
                      simp only [letterboxlaw06_HeaderFolds.j4] at H
                      by_cases c47 : (x6_40 ++ (⟨#[88, 45, 65, 102, 116, 101, 114, 58, 32, 50, 13, 10, 13, 10, 98, 111, 100, 121]⟩ : ByteArray)).size ≤ 9223372036854775807
                      · rw [if_pos c47] at H
                        have c47b0 := eq_true c47
                        (try have c47z0 := c47b0); (try simp only [ByteArray.size_append, Int.natCast_add, Int.cast_ofNat_Int, show (⟨#[88, 45, 65, 102, 116, 101, 114, 58, 32, 50, 13, 10, 13, 10, 98, 111, 100, 121]⟩ : ByteArray).size = 18 from rfl] at c47z0)
                        have c47b1 : decide ((x6_40 ++ (⟨#[88, 45, 65, 102, 116, 101, 114, 58, 32, 50, 13, 10, 13, 10, 98, 111, 100, 121]⟩ : ByteArray)).size ≤ 9223372036854775807) = true := decide_eq_true c47
                        (try have c47z1 := c47b1); (try simp only [ByteArray.size_append, Int.natCast_add, Int.cast_ofNat_Int, show (⟨#[88, 45, 65, 102, 116, 101, 114, 58, 32, 50, 13, 10, 13, 10, 98, 111, 100, 121]⟩ : ByteArray).size = 18 from rfl] at c47z1)
                        try have c47b2 : (9223372036854775807 < (x6_40 ++ (⟨#[88, 45, 65, 102, 116, 101, 114, 58, 32, 50, 13, 10, 13, 10, 98, 111, 100, 121]⟩ : ByteArray)).size) = False := eq_false (Nat.not_lt.2 c47)
                        try have c47b4 : (9223372036854775807 < x6_40.size + 18) = False := eq_false (Nat.not_lt.2 (by have h_ := c47; simp only [ByteArray.size_append] at h_; exact h_))
                        obtain ⟨y161, hy161⟩ : ∃ y_ : List Int, y_ = (bytesOf (x6_40 ++ (⟨#[88, 45, 65, 102, 116, 101, 114, 58, 32, 50, 13, 10, 13, 10, 98, 111, 100, 121]⟩ : ByteArray))) := ⟨_, rfl⟩
                        replace H : ((header_Of.f kj44 y161 0 ((x6_40 ++ (⟨#[88, 45, 65, 102, 116, 101, 114, 58, 32, 50, 13, 10, 13, 10, 98, 111, 100, 121]⟩ : ByteArray)).size : Int)).bind fun bt164 => (if (bt164.1.length : Int) = 3 then (if 0 ≤ bt164.2 then (if bt164.2 ≤ ((x6_40 ++ (⟨#[88, 45, 65, 102, 116, 101, 114, 58, 32, 50, 13, 10, 13, 10, 98, 111, 100, 121]⟩ : ByteArray)).size : Int) then (if ((x6_40 ++ (⟨#[88, 45, 65, 102, 116, 101, 114, 58, 32, 50, 13, 10, 13, 10, 98, 111, 100, 121]⟩ : ByteArray)).extract (bt164.2 : Int).toNat (x6_40 ++ (⟨#[88, 45, 65, 102, 116, 101, 114, 58, 32, 50, 13, 10, 13, 10, 98, 111, 100, 121]⟩ : ByteArray)).size).toList = ([98, 111, 100, 121] : List UInt8) then ((header_Value.f kj44 (bytesOf (x6_40 ++ (⟨#[88, 45, 65, 102, 116, 101, 114, 58, 32, 50, 13, 10, 13, 10, 98, 111, 100, 121]⟩ : ByteArray))) bt164.1 x11_44).bind fun t171 => (if t171.toList = x7_1.toList then ((header_Value.f kj44 (bytesOf (x6_40 ++ (⟨#[88, 45, 65, 102, 116, 101, 114, 58, 32, 50, 13, 10, 13, 10, 98, 111, 100, 121]⟩ : ByteArray))) bt164.1 (⟨#[120, 45, 97, 102, 116, 101, 114]⟩ : ByteArray)).bind fun t175 => (if t175.toList = ([50] : List UInt8) then ((header_Value.f kj44 (bytesOf (x6_40 ++ (⟨#[88, 45, 65, 102, 116, 101, 114, 58, 32, 50, 13, 10, 13, 10, 98, 111, 100, 121]⟩ : ByteArray))) bt164.1 (⟨#[110, 111, 110, 101]⟩ : ByteArray)).bind fun t179 => (some (t179.toList == ([] : List UInt8)))) else (some false))) else (some false))) else (some false)) else (none)) else (none)) else (some false))) = some r := by first | (rw [hy161]; with_reducible exact H) | (have H2_ := (Option.bind_some _ _).symm.trans H; rw [hy161]; with_reducible exact H2_) | (have H2_ := (Option.bind_some _ _).symm.trans H; with_reducible exact H2_) | with_reducible exact H | (rw [hy161]; exact H) | exact H
                        have Ny161 := Aside0.mk hy161
                        clear hy161
                        replace H := Option.bind_eq_some_iff.mp H
                        obtain ⟨⟨t164, t167⟩, A480, H⟩ := H
                        replace H : (if (t164.length : Int) = 3 then (if 0 ≤ t167 then (if t167 ≤ ((x6_40 ++ (⟨#[88, 45, 65, 102, 116, 101, 114, 58, 32, 50, 13, 10, 13, 10, 98, 111, 100, 121]⟩ : ByteArray)).size : Int) then (if ((x6_40 ++ (⟨#[88, 45, 65, 102, 116, 101, 114, 58, 32, 50, 13, 10, 13, 10, 98, 111, 100, 121]⟩ : ByteArray)).extract (t167 : Int).toNat (x6_40 ++ (⟨#[88, 45, 65, 102, 116, 101, 114, 58, 32, 50, 13, 10, 13, 10, 98, 111, 100, 121]⟩ : ByteArray)).size).toList = ([98, 111, 100, 121] : List UInt8) then ((header_Value.f kj44 (bytesOf (x6_40 ++ (⟨#[88, 45, 65, 102, 116, 101, 114, 58, 32, 50, 13, 10, 13, 10, 98, 111, 100, 121]⟩ : ByteArray))) t164 x11_44).bind fun t171 => (if t171.toList = x7_1.toList then ((header_Value.f kj44 (bytesOf (x6_40 ++ (⟨#[88, 45, 65, 102, 116, 101, 114, 58, 32, 50, 13, 10, 13, 10, 98, 111, 100, 121]⟩ : ByteArray))) t164 (⟨#[120, 45, 97, 102, 116, 101, 114]⟩ : ByteArray)).bind fun t175 => (if t175.toList = ([50] : List UInt8) then ((header_Value.f kj44 (bytesOf (x6_40 ++ (⟨#[88, 45, 65, 102, 116, 101, 114, 58, 32, 50, 13, 10, 13, 10, 98, 111, 100, 121]⟩ : ByteArray))) t164 (⟨#[110, 111, 110, 101]⟩ : ByteArray)).bind fun t179 => (some (t179.toList == ([] : List UInt8)))) else (some false))) else (some false))) else (some false)) else (none)) else (none)) else (some false)) = some r := H
                        have A48 := Aside0.mk A480
                        clear A480
                        by_cases c49 : (t164.length : Int) = 3
                        · rw [if_pos c49] at H
                          have c49b0 : ((t164.length : Int) == 3) = true := beq_iff_eq.mpr c49
                          have c49b1 : ((t164.length : Int) != 3) = false := bne_eq_false_iff_eq.mpr c49
                          clear c49
                          by_cases c50 : 0 ≤ t167
                          · rw [if_pos c50] at H
                            have c50b0 := eq_true c50
                            have c50b1 : decide (0 ≤ t167) = true := decide_eq_true c50
                            clear c50
                            by_cases c51 : t167 ≤ ((x6_40 ++ (⟨#[88, 45, 65, 102, 116, 101, 114, 58, 32, 50, 13, 10, 13, 10, 98, 111, 100, 121]⟩ : ByteArray)).size : Int)
                            · rw [if_pos c51] at H
                              have c51b0 := eq_true c51
                              (try have c51z0 := c51b0); (try simp only [ByteArray.size_append, Int.natCast_add, Int.cast_ofNat_Int, show (⟨#[88, 45, 65, 102, 116, 101, 114, 58, 32, 50, 13, 10, 13, 10, 98, 111, 100, 121]⟩ : ByteArray).size = 18 from rfl] at c51z0)
                              have c51b1 : decide (t167 ≤ ((x6_40 ++ (⟨#[88, 45, 65, 102, 116, 101, 114, 58, 32, 50, 13, 10, 13, 10, 98, 111, 100, 121]⟩ : ByteArray)).size : Int)) = true := decide_eq_true c51
                              (try have c51z1 := c51b1); (try simp only [ByteArray.size_append, Int.natCast_add, Int.cast_ofNat_Int, show (⟨#[88, 45, 65, 102, 116, 101, 114, 58, 32, 50, 13, 10, 13, 10, 98, 111, 100, 121]⟩ : ByteArray).size = 18 from rfl] at c51z1)
                              by_cases c52 : ((x6_40 ++ (⟨#[88, 45, 65, 102, 116, 101, 114, 58, 32, 50, 13, 10, 13, 10, 98, 111, 100, 121]⟩ : ByteArray)).extract (t167 : Int).toNat (x6_40 ++ (⟨#[88, 45, 65, 102, 116, 101, 114, 58, 32, 50, 13, 10, 13, 10, 98, 111, 100, 121]⟩ : ByteArray)).size).toList = ([98, 111, 100, 121] : List UInt8)
                              · rw [if_pos c52] at H
                                have c52b0 : (((x6_40 ++ (⟨#[88, 45, 65, 102, 116, 101, 114, 58, 32, 50, 13, 10, 13, 10, 98, 111, 100, 121]⟩ : ByteArray)).extract (t167 : Int).toNat (x6_40 ++ (⟨#[88, 45, 65, 102, 116, 101, 114, 58, 32, 50, 13, 10, 13, 10, 98, 111, 100, 121]⟩ : ByteArray)).size).toList == ([98, 111, 100, 121] : List UInt8)) = true := beq_iff_eq.mpr c52
                                (try have c52z0 := c52b0); (try simp only [ByteArray.size_append, Int.natCast_add, Int.cast_ofNat_Int, show (⟨#[88, 45, 65, 102, 116, 101, 114, 58, 32, 50, 13, 10, 13, 10, 98, 111, 100, 121]⟩ : ByteArray).size = 18 from rfl] at c52z0)
                                have c52b1 : (((x6_40 ++ (⟨#[88, 45, 65, 102, 116, 101, 114, 58, 32, 50, 13, 10, 13, 10, 98, 111, 100, 121]⟩ : ByteArray)).extract (t167 : Int).toNat (x6_40 ++ (⟨#[88, 45, 65, 102, 116, 101, 114, 58, 32, 50, 13, 10, 13, 10, 98, 111, 100, 121]⟩ : ByteArray)).size).toList != ([98, 111, 100, 121] : List UInt8)) = false := bne_eq_false_iff_eq.mpr c52
                                (try have c52z1 := c52b1); (try simp only [ByteArray.size_append, Int.natCast_add, Int.cast_ofNat_Int, show (⟨#[88, 45, 65, 102, 116, 101, 114, 58, 32, 50, 13, 10, 13, 10, 98, 111, 100, 121]⟩ : ByteArray).size = 18 from rfl] at c52z1)
                                clear c52
                                obtain ⟨y168, hy168⟩ : ∃ y_ : List Int, y_ = (bytesOf (x6_40 ++ (⟨#[88, 45, 65, 102, 116, 101, 114, 58, 32, 50, 13, 10, 13, 10, 98, 111, 100, 121]⟩ : ByteArray))) := ⟨_, rfl⟩
                                replace H : ((header_Value.f kj44 y168 t164 x11_44).bind fun t171 => (if t171.toList = x7_1.toList then ((header_Value.f kj44 (bytesOf (x6_40 ++ (⟨#[88, 45, 65, 102, 116, 101, 114, 58, 32, 50, 13, 10, 13, 10, 98, 111, 100, 121]⟩ : ByteArray))) t164 (⟨#[120, 45, 97, 102, 116, 101, 114]⟩ : ByteArray)).bind fun t175 => (if t175.toList = ([50] : List UInt8) then ((header_Value.f kj44 (bytesOf (x6_40 ++ (⟨#[88, 45, 65, 102, 116, 101, 114, 58, 32, 50, 13, 10, 13, 10, 98, 111, 100, 121]⟩ : ByteArray))) t164 (⟨#[110, 111, 110, 101]⟩ : ByteArray)).bind fun t179 => (some (t179.toList == ([] : List UInt8)))) else (some false))) else (some false))) = some r := by first | (rw [hy168]; with_reducible exact H) | (have H2_ := (Option.bind_some _ _).symm.trans H; rw [hy168]; with_reducible exact H2_) | (have H2_ := (Option.bind_some _ _).symm.trans H; with_reducible exact H2_) | with_reducible exact H | (rw [hy168]; exact H) | exact H
                                have Ny168 := Aside0.mk hy168
                                clear hy168
                                replace H := Option.bind_eq_some_iff.mp H
                                obtain ⟨t171, A530, H⟩ := H
                                replace H : (if t171.toList = x7_1.toList then ((header_Value.f kj44 (bytesOf (x6_40 ++ (⟨#[88, 45, 65, 102, 116, 101, 114, 58, 32, 50, 13, 10, 13, 10, 98, 111, 100, 121]⟩ : ByteArray))) t164 (⟨#[120, 45, 97, 102, 116, 101, 114]⟩ : ByteArray)).bind fun t175 => (if t175.toList = ([50] : List UInt8) then ((header_Value.f kj44 (bytesOf (x6_40 ++ (⟨#[88, 45, 65, 102, 116, 101, 114, 58, 32, 50, 13, 10, 13, 10, 98, 111, 100, 121]⟩ : ByteArray))) t164 (⟨#[110, 111, 110, 101]⟩ : ByteArray)).bind fun t179 => (some (t179.toList == ([] : List UInt8)))) else (some false))) else (some false)) = some r := H
                                have A53 := Aside0.mk A530
                                clear A530
                                by_cases c54 : t171.toList = x7_1.toList
                                · rw [if_pos c54] at H
                                  have c54b0 : (t171.toList == x7_1.toList) = true := beq_iff_eq.mpr c54
                                  have c54b1 : (t171.toList != x7_1.toList) = false := bne_eq_false_iff_eq.mpr c54
                                  clear c54
                                  obtain ⟨y172, hy172⟩ : ∃ y_ : List Int, y_ = (bytesOf (x6_40 ++ (⟨#[88, 45, 65, 102, 116, 101, 114, 58, 32, 50, 13, 10, 13, 10, 98, 111, 100, 121]⟩ : ByteArray))) := ⟨_, rfl⟩
                                  replace H : ((header_Value.f kj44 y172 t164 (⟨#[120, 45, 97, 102, 116, 101, 114]⟩ : ByteArray)).bind fun t175 => (if t175.toList = ([50] : List UInt8) then ((header_Value.f kj44 (bytesOf (x6_40 ++ (⟨#[88, 45, 65, 102, 116, 101, 114, 58, 32, 50, 13, 10, 13, 10, 98, 111, 100, 121]⟩ : ByteArray))) t164 (⟨#[110, 111, 110, 101]⟩ : ByteArray)).bind fun t179 => (some (t179.toList == ([] : List UInt8)))) else (some false))) = some r := by first | (rw [hy172]; with_reducible exact H) | (have H2_ := (Option.bind_some _ _).symm.trans H; rw [hy172]; with_reducible exact H2_) | (have H2_ := (Option.bind_some _ _).symm.trans H; with_reducible exact H2_) | with_reducible exact H | (rw [hy172]; exact H) | exact H
                                  have Ny172 := Aside0.mk hy172
                                  clear hy172
                                  replace H := Option.bind_eq_some_iff.mp H
                                  obtain ⟨t175, A550, H⟩ := H
                                  replace H : (if t175.toList = ([50] : List UInt8) then ((header_Value.f kj44 (bytesOf (x6_40 ++ (⟨#[88, 45, 65, 102, 116, 101, 114, 58, 32, 50, 13, 10, 13, 10, 98, 111, 100, 121]⟩ : ByteArray))) t164 (⟨#[110, 111, 110, 101]⟩ : ByteArray)).bind fun t179 => (some (t179.toList == ([] : List UInt8)))) else (some false)) = some r := H
                                  have A55 := Aside0.mk A550
                                  clear A550
                                  by_cases c56 : t175.toList = ([50] : List UInt8)
                                  · rw [if_pos c56] at H
                                    have c56b0 : (t175.toList == ([50] : List UInt8)) = true := beq_iff_eq.mpr c56
                                    have c56b1 : (t175.toList != ([50] : List UInt8)) = false := bne_eq_false_iff_eq.mpr c56
                                    clear c56
                                    obtain ⟨y176, hy176⟩ : ∃ y_ : List Int, y_ = (bytesOf (x6_40 ++ (⟨#[88, 45, 65, 102, 116, 101, 114, 58, 32, 50, 13, 10, 13, 10, 98, 111, 100, 121]⟩ : ByteArray))) := ⟨_, rfl⟩
                                    replace H : ((header_Value.f kj44 y176 t164 (⟨#[110, 111, 110, 101]⟩ : ByteArray)).bind fun t179 => (some (t179.toList == ([] : List UInt8)))) = some r := by first | (rw [hy176]; with_reducible exact H) | (have H2_ := (Option.bind_some _ _).symm.trans H; rw [hy176]; with_reducible exact H2_) | (have H2_ := (Option.bind_some _ _).symm.trans H; with_reducible exact H2_) | with_reducible exact H | (rw [hy176]; exact H) | exact H
                                    have Ny176 := Aside0.mk hy176
                                    clear hy176
                                    replace H := Option.bind_eq_some_iff.mp H
                                    obtain ⟨t179, A570, H⟩ := H
                                    replace H : (some (t179.toList == ([] : List UInt8))) = some r := H
                                    have A57 := Aside0.mk A570
                                    clear A570
                                    obtain rfl := Option.some.inj H
                                    go_wp2_with (first | ((with_reducible refine gate_dst (N := 89) rfl ?_); (try (refine gate_guard (by rfl) ?_; dsimp only)); refine Conv.bytes _ 5 rfl (N := 89) rfl 9 22 _ rfl (x6_40 ++ (⟨#[88, 45, 65, 102, 116, 101, 114, 58, 32, 50, 13, 10, 13, 10, 98, 111, 100, 121]⟩ : ByteArray)) rfl Try.underlying9 Try.underlying22 Try.underlying5 (of_decide_eq_true (by first | (with_reducible assumption) | assumption)) (ok := (fun _ => True)) ((show ∀ k_, wc.heap.size ≤ k_ → (fun _ => True) k_ from fun k_ hk => trivial) _ (Nat.le_refl _)) (Below.refl _ _) (Nat.le_refl _) ?_; intro v162 w58 ho59 hb hg_ hnew_; clear hg_ hnew_; (first | rw [← Ny161.out] at ho59 | (simp only [Int.reduceToNat] at ho59; rw [← Ny161.out] at ho59)); have n0_ := Aside0.mk (Kd.V_lower ho59 (below_size (by repeat (first | (with_reducible first | exact HB.out | apply below_alloc | apply pw_below_drewN | apply below_drew1) | exact HB.out)))); have n1_ := Aside0.mk (below_step (by repeat (first | (with_reducible first | exact HB.out | apply below_alloc | apply pw_below_drewN | apply below_drew1) | exact HB.out)) hb); clear HB; have HO163 := n0_; have HB := n1_; clear n0_ n1_; clear hb ho59; obtain ⟨Ao60, co60, eo60⟩ := Kd.V_slice HO163.out; subst eo60) | ((with_reducible refine gate_callee (f := 6) rfl ?_); refine goesL_ (some 93) rfl rfl Try.func6 (by kernel_rfl) rfl #[.slice Ao60 y161.length co60, .agg #[.int .i64 0, .int .i64 ((x6_40 ++ (⟨#[88, 45, 65, 102, 116, 101, 114, 58, 32, 50, 13, 10, 13, 10, 98, 111, 100, 121]⟩ : ByteArray)).size : Int)]] rfl (by (try simp only [List.map_toArray, List.map_cons, List.map_nil]); first | done | rfl | (simp only [List.length_drop, List.length_take]; rfl) | (simp only [ByteArray.size_append, Int.natCast_add]; rfl)) ?_; (with_reducible refine (header_Of.calls kj44 _ _ y161 0 ((x6_40 ++ (⟨#[88, 45, 65, 102, 116, 101, 114, 58, 32, 50, 13, 10, 13, 10, 98, 111, 100, 121]⟩ : ByteArray)).size : Int) t164 t167 _ ?side1 ?side2 A48.out).mono ?_); (case side1 => repeat (first | exact (Kd.V_reads' HO163.out).2.2 | (with_reducible refine Kd.C_alloc ?_ _) | (with_reducible refine Kd.C_drewN ?_ _) | (with_reducible refine Kd.C_drew ?_))); (case side2 => exact (Kd.V_reads' HO163.out).2.1); rintro e w61 ⟨v165, rfl, ho0, hb⟩; refine ⟨_, rfl, ?_⟩; have n0_ := Aside0.mk (Kd.V_elder' (by (with_reducible repeat (first | apply Kd.V_alloc | apply Kd.V_drewN | apply Kd.V_drew)); exact HO163.out) (Kd.R_base ho0) hb); have n1_ := Aside0.mk (Kd.R_lower ho0 (below_size (by repeat (first | (with_reducible first | exact HB.out | apply below_alloc | apply pw_below_drewN | apply below_drew1) | exact HB.out)))); have n2_ := Aside0.mk (below_step (by repeat (first | (with_reducible first | exact HB.out | apply below_alloc | apply pw_below_drewN | apply below_drew1) | exact HB.out)) hb); clear HO163; clear HB; have HO163 := n0_; have HO166 := n1_; have HB := n2_; clear n0_ n1_ n2_; (try clear hb); (try clear hb2); (try clear hk); (try clear hi); (try clear ho0); obtain ⟨Ao62, co62, eo62⟩ := Kd.R_slice HO166.out; subst eo62) | ((with_reducible refine gate_dst (N := 107) rfl ?_); (try (refine gate_guard (by rfl) ?_; dsimp only)); refine Conv.bytes _ 5 rfl (N := 107) rfl 9 22 _ rfl (x6_40 ++ (⟨#[88, 45, 65, 102, 116, 101, 114, 58, 32, 50, 13, 10, 13, 10, 98, 111, 100, 121]⟩ : ByteArray)) rfl Try.underlying9 Try.underlying22 Try.underlying5 (of_decide_eq_true (by first | (with_reducible assumption) | assumption)) (ok := (fun k_ => some k_ ≠ (.slice Ao62 t164.length co62 : Value).ownBlock)) ((show ∀ k_, w61.heap.size ≤ k_ → (fun k_ => some k_ ≠ (.slice Ao62 t164.length co62 : Value).ownBlock) k_ from fun k_ hk => Kd.fresh' (Kd.R_lt (by (with_reducible repeat (first | apply Kd.R_alloc | apply Kd.R_drewN | apply Kd.R_drew)); exact HO166.out)) k_ hk) _ (Nat.le_refl _)) (Below.refl _ _) (Nat.le_refl _) ?_; intro v169 w63 ho64 hb hg_ hnew_; clear hg_ hnew_; (first | rw [← Ny168.out] at ho64 | (simp only [Int.reduceToNat] at ho64; rw [← Ny168.out] at ho64)); have n0_ := Aside0.mk (Kd.V_below (by (with_reducible repeat (first | apply Kd.V_alloc | apply Kd.V_drewN | apply Kd.V_drew)); exact HO163.out) hb); have n1_ := Aside0.mk (Kd.R_below (by (with_reducible repeat (first | apply Kd.R_alloc | apply Kd.R_drewN | apply Kd.R_drew)); exact HO166.out) hb); have n2_ := Aside0.mk (Kd.V_lower ho64 (below_size (by repeat (first | (with_reducible first | exact HB.out | apply below_alloc | apply pw_below_drewN | apply below_drew1) | exact HB.out)))); have n3_ := Aside0.mk (below_step (by repeat (first | (with_reducible first | exact HB.out | apply below_alloc | apply pw_below_drewN | apply below_drew1) | exact HB.out)) hb); clear HO163; clear HO166; clear HB; have HO163 := n0_; have HO166 := n1_; have HO170 := n2_; have HB := n3_; clear n0_ n1_ n2_ n3_; clear hb ho64; obtain ⟨Ao65, co65, eo65⟩ := Kd.V_slice HO170.out; subst eo65) | (go_at_call 9; (with_reducible refine (header_Value.calls kj44 _ _ y168 _ _ t164 x11_44 t171 _ ?side1 ?side2 ?side3 ?side4 A53.out).mono ?_); (case side1 => repeat (first | exact (Kd.V_reads' HO170.out).2.2 | (with_reducible refine Kd.C_alloc ?_ _) | (with_reducible refine Kd.C_drewN ?_ _) | (with_reducible refine Kd.C_drew ?_))); (case side2 => exact (Kd.V_reads' HO170.out).2.1); (case side3 => repeat (first | exact (Kd.R_reads' HO166.out).2.2 | (with_reducible refine Kd.C_alloc ?_ _) | (with_reducible refine Kd.C_drewN ?_ _) | (with_reducible refine Kd.C_drew ?_))); (case side4 => exact (Kd.R_reads' HO166.out).2.1); rintro e w66 ⟨rfl, hb⟩; have n0_ := Aside0.mk (Kd.V_below (by (with_reducible repeat (first | apply Kd.V_alloc | apply Kd.V_drewN | apply Kd.V_drew)); exact HO163.out) hb); have n1_ := Aside0.mk (Kd.R_below (by (with_reducible repeat (first | apply Kd.R_alloc | apply Kd.R_drewN | apply Kd.R_drew)); exact HO166.out) hb); have n2_ := Aside0.mk (Kd.V_below (by (with_reducible repeat (first | apply Kd.V_alloc | apply Kd.V_drewN | apply Kd.V_drew)); exact HO170.out) hb); have n3_ := Aside0.mk (below_step (by repeat (first | (with_reducible first | exact HB.out | apply below_alloc | apply pw_below_drewN | apply below_drew1) | exact HB.out)) hb); clear HO163; clear HO166; clear HO170; clear HB; have HO163 := n0_; have HO166 := n1_; have HO170 := n2_; have HB := n3_; clear n0_ n1_ n2_ n3_; (try clear hb); (try clear hb2); (try clear hk); (try clear hi)) | ((with_reducible refine gate_dst (N := 116) rfl ?_); (try (refine gate_guard (by rfl) ?_; dsimp only)); refine Conv.bytes _ 5 rfl (N := 116) rfl 9 22 _ rfl (x6_40 ++ (⟨#[88, 45, 65, 102, 116, 101, 114, 58, 32, 50, 13, 10, 13, 10, 98, 111, 100, 121]⟩ : ByteArray)) rfl Try.underlying9 Try.underlying22 Try.underlying5 (of_decide_eq_true (by first | (with_reducible assumption) | assumption)) (ok := (fun k_ => some k_ ≠ (.slice Ao62 t164.length co62 : Value).ownBlock)) ((show ∀ k_, w66.heap.size ≤ k_ → (fun k_ => some k_ ≠ (.slice Ao62 t164.length co62 : Value).ownBlock) k_ from fun k_ hk => Kd.fresh' (Kd.R_lt (by (with_reducible repeat (first | apply Kd.R_alloc | apply Kd.R_drewN | apply Kd.R_drew)); exact HO166.out)) k_ hk) _ (Nat.le_refl _)) (Below.refl _ _) (Nat.le_refl _) ?_; intro v173 w67 ho68 hb hg_ hnew_; clear hg_ hnew_; (first | rw [← Ny172.out] at ho68 | (simp only [Int.reduceToNat] at ho68; rw [← Ny172.out] at ho68)); have n0_ := Aside0.mk (Kd.V_below (by (with_reducible repeat (first | apply Kd.V_alloc | apply Kd.V_drewN | apply Kd.V_drew)); exact HO163.out) hb); have n1_ := Aside0.mk (Kd.R_below (by (with_reducible repeat (first | apply Kd.R_alloc | apply Kd.R_drewN | apply Kd.R_drew)); exact HO166.out) hb); have n2_ := Aside0.mk (Kd.V_below (by (with_reducible repeat (first | apply Kd.V_alloc | apply Kd.V_drewN | apply Kd.V_drew)); exact HO170.out) hb); have n3_ := Aside0.mk (Kd.V_lower ho68 (below_size (by repeat (first | (with_reducible first | exact HB.out | apply below_alloc | apply pw_below_drewN | apply below_drew1) | exact HB.out)))); have n4_ := Aside0.mk (below_step (by repeat (first | (with_reducible first | exact HB.out | apply below_alloc | apply pw_below_drewN | apply below_drew1) | exact HB.out)) hb); clear HO163; clear HO166; clear HO170; clear HB; have HO163 := n0_; have HO166 := n1_; have HO170 := n2_; have HO174 := n3_; have HB := n4_; clear n0_ n1_ n2_ n3_ n4_; clear hb ho68; obtain ⟨Ao69, co69, eo69⟩ := Kd.V_slice HO174.out; subst eo69) | (go_at_call 9; (with_reducible refine (header_Value.calls kj44 _ _ y172 _ _ t164 (⟨#[120, 45, 97, 102, 116, 101, 114]⟩ : ByteArray) t175 _ ?side1 ?side2 ?side3 ?side4 A55.out).mono ?_); (case side1 => repeat (first | exact (Kd.V_reads' HO174.out).2.2 | (with_reducible refine Kd.C_alloc ?_ _) | (with_reducible refine Kd.C_drewN ?_ _) | (with_reducible refine Kd.C_drew ?_))); (case side2 => exact (Kd.V_reads' HO174.out).2.1); (case side3 => repeat (first | exact (Kd.R_reads' HO166.out).2.2 | (with_reducible refine Kd.C_alloc ?_ _) | (with_reducible refine Kd.C_drewN ?_ _) | (with_reducible refine Kd.C_drew ?_))); (case side4 => exact (Kd.R_reads' HO166.out).2.1); rintro e w70 ⟨rfl, hb⟩; have n0_ := Aside0.mk (Kd.V_below (by (with_reducible repeat (first | apply Kd.V_alloc | apply Kd.V_drewN | apply Kd.V_drew)); exact HO163.out) hb); have n1_ := Aside0.mk (Kd.R_below (by (with_reducible repeat (first | apply Kd.R_alloc | apply Kd.R_drewN | apply Kd.R_drew)); exact HO166.out) hb); have n2_ := Aside0.mk (Kd.V_below (by (with_reducible repeat (first | apply Kd.V_alloc | apply Kd.V_drewN | apply Kd.V_drew)); exact HO170.out) hb); have n3_ := Aside0.mk (Kd.V_below (by (with_reducible repeat (first | apply Kd.V_alloc | apply Kd.V_drewN | apply Kd.V_drew)); exact HO174.out) hb); have n4_ := Aside0.mk (below_step (by repeat (first | (with_reducible first | exact HB.out | apply below_alloc | apply pw_below_drewN | apply below_drew1) | exact HB.out)) hb); clear HO163; clear HO166; clear HO170; clear HO174; clear HB; have HO163 := n0_; have HO166 := n1_; have HO170 := n2_; have HO174 := n3_; have HB := n4_; clear n0_ n1_ n2_ n3_ n4_; (try clear hb); (try clear hb2); (try clear hk); (try clear hi)) | ((with_reducible refine gate_dst (N := 123) rfl ?_); (try (refine gate_guard (by rfl) ?_; dsimp only)); refine Conv.bytes _ 5 rfl (N := 123) rfl 9 22 _ rfl (x6_40 ++ (⟨#[88, 45, 65, 102, 116, 101, 114, 58, 32, 50, 13, 10, 13, 10, 98, 111, 100, 121]⟩ : ByteArray)) rfl Try.underlying9 Try.underlying22 Try.underlying5 (of_decide_eq_true (by first | (with_reducible assumption) | assumption)) (ok := (fun k_ => some k_ ≠ (.slice Ao62 t164.length co62 : Value).ownBlock)) ((show ∀ k_, w70.heap.size ≤ k_ → (fun k_ => some k_ ≠ (.slice Ao62 t164.length co62 : Value).ownBlock) k_ from fun k_ hk => Kd.fresh' (Kd.R_lt (by (with_reducible repeat (first | apply Kd.R_alloc | apply Kd.R_drewN | apply Kd.R_drew)); exact HO166.out)) k_ hk) _ (Nat.le_refl _)) (Below.refl _ _) (Nat.le_refl _) ?_; intro v177 w71 ho72 hb hg_ hnew_; clear hg_ hnew_; (first | rw [← Ny176.out] at ho72 | (simp only [Int.reduceToNat] at ho72; rw [← Ny176.out] at ho72)); have n0_ := Aside0.mk (Kd.V_below (by (with_reducible repeat (first | apply Kd.V_alloc | apply Kd.V_drewN | apply Kd.V_drew)); exact HO163.out) hb); have n1_ := Aside0.mk (Kd.R_below (by (with_reducible repeat (first | apply Kd.R_alloc | apply Kd.R_drewN | apply Kd.R_drew)); exact HO166.out) hb); have n2_ := Aside0.mk (Kd.V_below (by (with_reducible repeat (first | apply Kd.V_alloc | apply Kd.V_drewN | apply Kd.V_drew)); exact HO170.out) hb); have n3_ := Aside0.mk (Kd.V_below (by (with_reducible repeat (first | apply Kd.V_alloc | apply Kd.V_drewN | apply Kd.V_drew)); exact HO174.out) hb); have n4_ := Aside0.mk (Kd.V_lower ho72 (below_size (by repeat (first | (with_reducible first | exact HB.out | apply below_alloc | apply pw_below_drewN | apply below_drew1) | exact HB.out)))); have n5_ := Aside0.mk (below_step (by repeat (first | (with_reducible first | exact HB.out | apply below_alloc | apply pw_below_drewN | apply below_drew1) | exact HB.out)) hb); clear HO163; clear HO166; clear HO170; clear HO174; clear HB; have HO163 := n0_; have HO166 := n1_; have HO170 := n2_; have HO174 := n3_; have HO178 := n4_; have HB := n5_; clear n0_ n1_ n2_ n3_ n4_ n5_; clear hb ho72; obtain ⟨Ao73, co73, eo73⟩ := Kd.V_slice HO178.out; subst eo73) | (go_at_call 9; (with_reducible refine (header_Value.calls kj44 _ _ y176 _ _ t164 (⟨#[110, 111, 110, 101]⟩ : ByteArray) t179 _ ?side1 ?side2 ?side3 ?side4 A57.out).mono ?_); (case side1 => repeat (first | exact (Kd.V_reads' HO178.out).2.2 | (with_reducible refine Kd.C_alloc ?_ _) | (with_reducible refine Kd.C_drewN ?_ _) | (with_reducible refine Kd.C_drew ?_))); (case side2 => exact (Kd.V_reads' HO178.out).2.1); (case side3 => repeat (first | exact (Kd.R_reads' HO166.out).2.2 | (with_reducible refine Kd.C_alloc ?_ _) | (with_reducible refine Kd.C_drewN ?_ _) | (with_reducible refine Kd.C_drew ?_))); (case side4 => exact (Kd.R_reads' HO166.out).2.1); rintro e w74 ⟨rfl, hb⟩; have n0_ := Aside0.mk (Kd.V_below (by (with_reducible repeat (first | apply Kd.V_alloc | apply Kd.V_drewN | apply Kd.V_drew)); exact HO163.out) hb); have n1_ := Aside0.mk (Kd.R_below (by (with_reducible repeat (first | apply Kd.R_alloc | apply Kd.R_drewN | apply Kd.R_drew)); exact HO166.out) hb); have n2_ := Aside0.mk (Kd.V_below (by (with_reducible repeat (first | apply Kd.V_alloc | apply Kd.V_drewN | apply Kd.V_drew)); exact HO170.out) hb); have n3_ := Aside0.mk (Kd.V_below (by (with_reducible repeat (first | apply Kd.V_alloc | apply Kd.V_drewN | apply Kd.V_drew)); exact HO174.out) hb); have n4_ := Aside0.mk (Kd.V_below (by (with_reducible repeat (first | apply Kd.V_alloc | apply Kd.V_drewN | apply Kd.V_drew)); exact HO178.out) hb); have n5_ := Aside0.mk (below_step (by repeat (first | (with_reducible first | exact HB.out | apply below_alloc | apply pw_below_drewN | apply below_drew1) | exact HB.out)) hb); clear HO163; clear HO166; clear HO170; clear HO174; clear HO178; clear HB; have HO163 := n0_; have HO166 := n1_; have HO170 := n2_; have HO174 := n3_; have HO178 := n4_; have HB := n5_; clear n0_ n1_ n2_ n3_ n4_ n5_; (try clear hb); (try clear hb2); (try clear hk); (try clear hi)))
                                    go_ret
                                    exact ⟨by first | rfl | (simp [errW_none, errW_some] <;> rfl) | (simp [*, errW_none, errW_some] <;> rfl), by repeat (first | (with_reducible first | exact HB.out | apply below_alloc | apply pw_below_drewN | apply below_drew1) | exact HB.out)⟩
                                  · rw [if_neg c56] at H
                                    have c56b0 : (t175.toList == ([50] : List UInt8)) = false := beq_eq_false_iff_ne.mpr c56
                                    have c56b1 : (t175.toList != ([50] : List UInt8)) = true := bne_iff_ne.mpr c56
                                    obtain rfl := Option.some.inj H
                                    go_wp2_with (first | ((with_reducible refine gate_dst (N := 89) rfl ?_); (try (refine gate_guard (by rfl) ?_; dsimp only)); refine Conv.bytes _ 5 rfl (N := 89) rfl 9 22 _ rfl (x6_40 ++ (⟨#[88, 45, 65, 102, 116, 101, 114, 58, 32, 50, 13, 10, 13, 10, 98, 111, 100, 121]⟩ : ByteArray)) rfl Try.underlying9 Try.underlying22 Try.underlying5 (of_decide_eq_true (by first | (with_reducible assumption) | assumption)) (ok := (fun _ => True)) ((show ∀ k_, wc.heap.size ≤ k_ → (fun _ => True) k_ from fun k_ hk => trivial) _ (Nat.le_refl _)) (Below.refl _ _) (Nat.le_refl _) ?_; intro v162 w75 ho76 hb hg_ hnew_; clear hg_ hnew_; (first | rw [← Ny161.out] at ho76 | (simp only [Int.reduceToNat] at ho76; rw [← Ny161.out] at ho76)); have n0_ := Aside0.mk (Kd.V_lower ho76 (below_size (by repeat (first | (with_reducible first | exact HB.out | apply below_alloc | apply pw_below_drewN | apply below_drew1) | exact HB.out)))); have n1_ := Aside0.mk (below_step (by repeat (first | (with_reducible first | exact HB.out | apply below_alloc | apply pw_below_drewN | apply below_drew1) | exact HB.out)) hb); clear HB; have HO163 := n0_; have HB := n1_; clear n0_ n1_; clear hb ho76; obtain ⟨Ao77, co77, eo77⟩ := Kd.V_slice HO163.out; subst eo77) | ((with_reducible refine gate_callee (f := 6) rfl ?_); refine goesL_ (some 93) rfl rfl Try.func6 (by kernel_rfl) rfl #[.slice Ao77 y161.length co77, .agg #[.int .i64 0, .int .i64 ((x6_40 ++ (⟨#[88, 45, 65, 102, 116, 101, 114, 58, 32, 50, 13, 10, 13, 10, 98, 111, 100, 121]⟩ : ByteArray)).size : Int)]] rfl (by (try simp only [List.map_toArray, List.map_cons, List.map_nil]); first | done | rfl | (simp only [List.length_drop, List.length_take]; rfl) | (simp only [ByteArray.size_append, Int.natCast_add]; rfl)) ?_; (with_reducible refine (header_Of.calls kj44 _ _ y161 0 ((x6_40 ++ (⟨#[88, 45, 65, 102, 116, 101, 114, 58, 32, 50, 13, 10, 13, 10, 98, 111, 100, 121]⟩ : ByteArray)).size : Int) t164 t167 _ ?side1 ?side2 A48.out).mono ?_); (case side1 => repeat (first | exact (Kd.V_reads' HO163.out).2.2 | (with_reducible refine Kd.C_alloc ?_ _) | (with_reducible refine Kd.C_drewN ?_ _) | (with_reducible refine Kd.C_drew ?_))); (case side2 => exact (Kd.V_reads' HO163.out).2.1); rintro e w78 ⟨v165, rfl, ho0, hb⟩; refine ⟨_, rfl, ?_⟩; have n0_ := Aside0.mk (Kd.V_elder' (by (with_reducible repeat (first | apply Kd.V_alloc | apply Kd.V_drewN | apply Kd.V_drew)); exact HO163.out) (Kd.R_base ho0) hb); have n1_ := Aside0.mk (Kd.R_lower ho0 (below_size (by repeat (first | (with_reducible first | exact HB.out | apply below_alloc | apply pw_below_drewN | apply below_drew1) | exact HB.out)))); have n2_ := Aside0.mk (below_step (by repeat (first | (with_reducible first | exact HB.out | apply below_alloc | apply pw_below_drewN | apply below_drew1) | exact HB.out)) hb); clear HO163; clear HB; have HO163 := n0_; have HO166 := n1_; have HB := n2_; clear n0_ n1_ n2_; (try clear hb); (try clear hb2); (try clear hk); (try clear hi); (try clear ho0); obtain ⟨Ao79, co79, eo79⟩ := Kd.R_slice HO166.out; subst eo79) | ((with_reducible refine gate_dst (N := 107) rfl ?_); (try (refine gate_guard (by rfl) ?_; dsimp only)); refine Conv.bytes _ 5 rfl (N := 107) rfl 9 22 _ rfl (x6_40 ++ (⟨#[88, 45, 65, 102, 116, 101, 114, 58, 32, 50, 13, 10, 13, 10, 98, 111, 100, 121]⟩ : ByteArray)) rfl Try.underlying9 Try.underlying22 Try.underlying5 (of_decide_eq_true (by first | (with_reducible assumption) | assumption)) (ok := (fun k_ => some k_ ≠ (.slice Ao79 t164.length co79 : Value).ownBlock)) ((show ∀ k_, w78.heap.size ≤ k_ → (fun k_ => some k_ ≠ (.slice Ao79 t164.length co79 : Value).ownBlock) k_ from fun k_ hk => Kd.fresh' (Kd.R_lt (by (with_reducible repeat (first | apply Kd.R_alloc | apply Kd.R_drewN | apply Kd.R_drew)); exact HO166.out)) k_ hk) _ (Nat.le_refl _)) (Below.refl _ _) (Nat.le_refl _) ?_; intro v169 w80 ho81 hb hg_ hnew_; clear hg_ hnew_; (first | rw [← Ny168.out] at ho81 | (simp only [Int.reduceToNat] at ho81; rw [← Ny168.out] at ho81)); have n0_ := Aside0.mk (Kd.V_below (by (with_reducible repeat (first | apply Kd.V_alloc | apply Kd.V_drewN | apply Kd.V_drew)); exact HO163.out) hb); have n1_ := Aside0.mk (Kd.R_below (by (with_reducible repeat (first | apply Kd.R_alloc | apply Kd.R_drewN | apply Kd.R_drew)); exact HO166.out) hb); have n2_ := Aside0.mk (Kd.V_lower ho81 (below_size (by repeat (first | (with_reducible first | exact HB.out | apply below_alloc | apply pw_below_drewN | apply below_drew1) | exact HB.out)))); have n3_ := Aside0.mk (below_step (by repeat (first | (with_reducible first | exact HB.out | apply below_alloc | apply pw_below_drewN | apply below_drew1) | exact HB.out)) hb); clear HO163; clear HO166; clear HB; have HO163 := n0_; have HO166 := n1_; have HO170 := n2_; have HB := n3_; clear n0_ n1_ n2_ n3_; clear hb ho81; obtain ⟨Ao82, co82, eo82⟩ := Kd.V_slice HO170.out; subst eo82) | (go_at_call 9; (with_reducible refine (header_Value.calls kj44 _ _ y168 _ _ t164 x11_44 t171 _ ?side1 ?side2 ?side3 ?side4 A53.out).mono ?_); (case side1 => repeat (first | exact (Kd.V_reads' HO170.out).2.2 | (with_reducible refine Kd.C_alloc ?_ _) | (with_reducible refine Kd.C_drewN ?_ _) | (with_reducible refine Kd.C_drew ?_))); (case side2 => exact (Kd.V_reads' HO170.out).2.1); (case side3 => repeat (first | exact (Kd.R_reads' HO166.out).2.2 | (with_reducible refine Kd.C_alloc ?_ _) | (with_reducible refine Kd.C_drewN ?_ _) | (with_reducible refine Kd.C_drew ?_))); (case side4 => exact (Kd.R_reads' HO166.out).2.1); rintro e w83 ⟨rfl, hb⟩; have n0_ := Aside0.mk (Kd.V_below (by (with_reducible repeat (first | apply Kd.V_alloc | apply Kd.V_drewN | apply Kd.V_drew)); exact HO163.out) hb); have n1_ := Aside0.mk (Kd.R_below (by (with_reducible repeat (first | apply Kd.R_alloc | apply Kd.R_drewN | apply Kd.R_drew)); exact HO166.out) hb); have n2_ := Aside0.mk (Kd.V_below (by (with_reducible repeat (first | apply Kd.V_alloc | apply Kd.V_drewN | apply Kd.V_drew)); exact HO170.out) hb); have n3_ := Aside0.mk (below_step (by repeat (first | (with_reducible first | exact HB.out | apply below_alloc | apply pw_below_drewN | apply below_drew1) | exact HB.out)) hb); clear HO163; clear HO166; clear HO170; clear HB; have HO163 := n0_; have HO166 := n1_; have HO170 := n2_; have HB := n3_; clear n0_ n1_ n2_ n3_; (try clear hb); (try clear hb2); (try clear hk); (try clear hi)) | ((with_reducible refine gate_dst (N := 116) rfl ?_); (try (refine gate_guard (by rfl) ?_; dsimp only)); refine Conv.bytes _ 5 rfl (N := 116) rfl 9 22 _ rfl (x6_40 ++ (⟨#[88, 45, 65, 102, 116, 101, 114, 58, 32, 50, 13, 10, 13, 10, 98, 111, 100, 121]⟩ : ByteArray)) rfl Try.underlying9 Try.underlying22 Try.underlying5 (of_decide_eq_true (by first | (with_reducible assumption) | assumption)) (ok := (fun k_ => some k_ ≠ (.slice Ao79 t164.length co79 : Value).ownBlock)) ((show ∀ k_, w83.heap.size ≤ k_ → (fun k_ => some k_ ≠ (.slice Ao79 t164.length co79 : Value).ownBlock) k_ from fun k_ hk => Kd.fresh' (Kd.R_lt (by (with_reducible repeat (first | apply Kd.R_alloc | apply Kd.R_drewN | apply Kd.R_drew)); exact HO166.out)) k_ hk) _ (Nat.le_refl _)) (Below.refl _ _) (Nat.le_refl _) ?_; intro v173 w84 ho85 hb hg_ hnew_; clear hg_ hnew_; (first | rw [← Ny172.out] at ho85 | (simp only [Int.reduceToNat] at ho85; rw [← Ny172.out] at ho85)); have n0_ := Aside0.mk (Kd.V_below (by (with_reducible repeat (first | apply Kd.V_alloc | apply Kd.V_drewN | apply Kd.V_drew)); exact HO163.out) hb); have n1_ := Aside0.mk (Kd.R_below (by (with_reducible repeat (first | apply Kd.R_alloc | apply Kd.R_drewN | apply Kd.R_drew)); exact HO166.out) hb); have n2_ := Aside0.mk (Kd.V_below (by (with_reducible repeat (first | apply Kd.V_alloc | apply Kd.V_drewN | apply Kd.V_drew)); exact HO170.out) hb); have n3_ := Aside0.mk (Kd.V_lower ho85 (below_size (by repeat (first | (with_reducible first | exact HB.out | apply below_alloc | apply pw_below_drewN | apply below_drew1) | exact HB.out)))); have n4_ := Aside0.mk (below_step (by repeat (first | (with_reducible first | exact HB.out | apply below_alloc | apply pw_below_drewN | apply below_drew1) | exact HB.out)) hb); clear HO163; clear HO166; clear HO170; clear HB; have HO163 := n0_; have HO166 := n1_; have HO170 := n2_; have HO174 := n3_; have HB := n4_; clear n0_ n1_ n2_ n3_ n4_; clear hb ho85; obtain ⟨Ao86, co86, eo86⟩ := Kd.V_slice HO174.out; subst eo86) | (go_at_call 9; (with_reducible refine (header_Value.calls kj44 _ _ y172 _ _ t164 (⟨#[120, 45, 97, 102, 116, 101, 114]⟩ : ByteArray) t175 _ ?side1 ?side2 ?side3 ?side4 A55.out).mono ?_); (case side1 => repeat (first | exact (Kd.V_reads' HO174.out).2.2 | (with_reducible refine Kd.C_alloc ?_ _) | (with_reducible refine Kd.C_drewN ?_ _) | (with_reducible refine Kd.C_drew ?_))); (case side2 => exact (Kd.V_reads' HO174.out).2.1); (case side3 => repeat (first | exact (Kd.R_reads' HO166.out).2.2 | (with_reducible refine Kd.C_alloc ?_ _) | (with_reducible refine Kd.C_drewN ?_ _) | (with_reducible refine Kd.C_drew ?_))); (case side4 => exact (Kd.R_reads' HO166.out).2.1); rintro e w87 ⟨rfl, hb⟩; have n0_ := Aside0.mk (Kd.V_below (by (with_reducible repeat (first | apply Kd.V_alloc | apply Kd.V_drewN | apply Kd.V_drew)); exact HO163.out) hb); have n1_ := Aside0.mk (Kd.R_below (by (with_reducible repeat (first | apply Kd.R_alloc | apply Kd.R_drewN | apply Kd.R_drew)); exact HO166.out) hb); have n2_ := Aside0.mk (Kd.V_below (by (with_reducible repeat (first | apply Kd.V_alloc | apply Kd.V_drewN | apply Kd.V_drew)); exact HO170.out) hb); have n3_ := Aside0.mk (Kd.V_below (by (with_reducible repeat (first | apply Kd.V_alloc | apply Kd.V_drewN | apply Kd.V_drew)); exact HO174.out) hb); have n4_ := Aside0.mk (below_step (by repeat (first | (with_reducible first | exact HB.out | apply below_alloc | apply pw_below_drewN | apply below_drew1) | exact HB.out)) hb); clear HO163; clear HO166; clear HO170; clear HO174; clear HB; have HO163 := n0_; have HO166 := n1_; have HO170 := n2_; have HO174 := n3_; have HB := n4_; clear n0_ n1_ n2_ n3_ n4_; (try clear hb); (try clear hb2); (try clear hk); (try clear hi)))
                                    go_ret
                                    exact ⟨by first | rfl | (simp [errW_none, errW_some] <;> rfl) | (simp [*, errW_none, errW_some] <;> rfl), by repeat (first | (with_reducible first | exact HB.out | apply below_alloc | apply pw_below_drewN | apply below_drew1) | exact HB.out)⟩
                                · rw [if_neg c54] at H
                                  have c54b0 : (t171.toList == x7_1.toList) = false := beq_eq_false_iff_ne.mpr c54
                                  have c54b1 : (t171.toList != x7_1.toList) = true := bne_iff_ne.mpr c54
                                  obtain rfl := Option.some.inj H
                                  go_wp2_with (first | ((with_reducible refine gate_dst (N := 89) rfl ?_); (try (refine gate_guard (by rfl) ?_; dsimp only)); refine Conv.bytes _ 5 rfl (N := 89) rfl 9 22 _ rfl (x6_40 ++ (⟨#[88, 45, 65, 102, 116, 101, 114, 58, 32, 50, 13, 10, 13, 10, 98, 111, 100, 121]⟩ : ByteArray)) rfl Try.underlying9 Try.underlying22 Try.underlying5 (of_decide_eq_true (by first | (with_reducible assumption) | assumption)) (ok := (fun _ => True)) ((show ∀ k_, wc.heap.size ≤ k_ → (fun _ => True) k_ from fun k_ hk => trivial) _ (Nat.le_refl _)) (Below.refl _ _) (Nat.le_refl _) ?_; intro v162 w88 ho89 hb hg_ hnew_; clear hg_ hnew_; (first | rw [← Ny161.out] at ho89 | (simp only [Int.reduceToNat] at ho89; rw [← Ny161.out] at ho89)); have n0_ := Aside0.mk (Kd.V_lower ho89 (below_size (by repeat (first | (with_reducible first | exact HB.out | apply below_alloc | apply pw_below_drewN | apply below_drew1) | exact HB.out)))); have n1_ := Aside0.mk (below_step (by repeat (first | (with_reducible first | exact HB.out | apply below_alloc | apply pw_below_drewN | apply below_drew1) | exact HB.out)) hb); clear HB; have HO163 := n0_; have HB := n1_; clear n0_ n1_; clear hb ho89; obtain ⟨Ao90, co90, eo90⟩ := Kd.V_slice HO163.out; subst eo90) | ((with_reducible refine gate_callee (f := 6) rfl ?_); refine goesL_ (some 93) rfl rfl Try.func6 (by kernel_rfl) rfl #[.slice Ao90 y161.length co90, .agg #[.int .i64 0, .int .i64 ((x6_40 ++ (⟨#[88, 45, 65, 102, 116, 101, 114, 58, 32, 50, 13, 10, 13, 10, 98, 111, 100, 121]⟩ : ByteArray)).size : Int)]] rfl (by (try simp only [List.map_toArray, List.map_cons, List.map_nil]); first | done | rfl | (simp only [List.length_drop, List.length_take]; rfl) | (simp only [ByteArray.size_append, Int.natCast_add]; rfl)) ?_; (with_reducible refine (header_Of.calls kj44 _ _ y161 0 ((x6_40 ++ (⟨#[88, 45, 65, 102, 116, 101, 114, 58, 32, 50, 13, 10, 13, 10, 98, 111, 100, 121]⟩ : ByteArray)).size : Int) t164 t167 _ ?side1 ?side2 A48.out).mono ?_); (case side1 => repeat (first | exact (Kd.V_reads' HO163.out).2.2 | (with_reducible refine Kd.C_alloc ?_ _) | (with_reducible refine Kd.C_drewN ?_ _) | (with_reducible refine Kd.C_drew ?_))); (case side2 => exact (Kd.V_reads' HO163.out).2.1); rintro e w91 ⟨v165, rfl, ho0, hb⟩; refine ⟨_, rfl, ?_⟩; have n0_ := Aside0.mk (Kd.V_elder' (by (with_reducible repeat (first | apply Kd.V_alloc | apply Kd.V_drewN | apply Kd.V_drew)); exact HO163.out) (Kd.R_base ho0) hb); have n1_ := Aside0.mk (Kd.R_lower ho0 (below_size (by repeat (first | (with_reducible first | exact HB.out | apply below_alloc | apply pw_below_drewN | apply below_drew1) | exact HB.out)))); have n2_ := Aside0.mk (below_step (by repeat (first | (with_reducible first | exact HB.out | apply below_alloc | apply pw_below_drewN | apply below_drew1) | exact HB.out)) hb); clear HO163; clear HB; have HO163 := n0_; have HO166 := n1_; have HB := n2_; clear n0_ n1_ n2_; (try clear hb); (try clear hb2); (try clear hk); (try clear hi); (try clear ho0); obtain ⟨Ao92, co92, eo92⟩ := Kd.R_slice HO166.out; subst eo92) | ((with_reducible refine gate_dst (N := 107) rfl ?_); (try (refine gate_guard (by rfl) ?_; dsimp only)); refine Conv.bytes _ 5 rfl (N := 107) rfl 9 22 _ rfl (x6_40 ++ (⟨#[88, 45, 65, 102, 116, 101, 114, 58, 32, 50, 13, 10, 13, 10, 98, 111, 100, 121]⟩ : ByteArray)) rfl Try.underlying9 Try.underlying22 Try.underlying5 (of_decide_eq_true (by first | (with_reducible assumption) | assumption)) (ok := (fun k_ => some k_ ≠ (.slice Ao92 t164.length co92 : Value).ownBlock)) ((show ∀ k_, w91.heap.size ≤ k_ → (fun k_ => some k_ ≠ (.slice Ao92 t164.length co92 : Value).ownBlock) k_ from fun k_ hk => Kd.fresh' (Kd.R_lt (by (with_reducible repeat (first | apply Kd.R_alloc | apply Kd.R_drewN | apply Kd.R_drew)); exact HO166.out)) k_ hk) _ (Nat.le_refl _)) (Below.refl _ _) (Nat.le_refl _) ?_; intro v169 w93 ho94 hb hg_ hnew_; clear hg_ hnew_; (first | rw [← Ny168.out] at ho94 | (simp only [Int.reduceToNat] at ho94; rw [← Ny168.out] at ho94)); have n0_ := Aside0.mk (Kd.V_below (by (with_reducible repeat (first | apply Kd.V_alloc | apply Kd.V_drewN | apply Kd.V_drew)); exact HO163.out) hb); have n1_ := Aside0.mk (Kd.R_below (by (with_reducible repeat (first | apply Kd.R_alloc | apply Kd.R_drewN | apply Kd.R_drew)); exact HO166.out) hb); have n2_ := Aside0.mk (Kd.V_lower ho94 (below_size (by repeat (first | (with_reducible first | exact HB.out | apply below_alloc | apply pw_below_drewN | apply below_drew1) | exact HB.out)))); have n3_ := Aside0.mk (below_step (by repeat (first | (with_reducible first | exact HB.out | apply below_alloc | apply pw_below_drewN | apply below_drew1) | exact HB.out)) hb); clear HO163; clear HO166; clear HB; have HO163 := n0_; have HO166 := n1_; have HO170 := n2_; have HB := n3_; clear n0_ n1_ n2_ n3_; clear hb ho94; obtain ⟨Ao95, co95, eo95⟩ := Kd.V_slice HO170.out; subst eo95) | (go_at_call 9; (with_reducible refine (header_Value.calls kj44 _ _ y168 _ _ t164 x11_44 t171 _ ?side1 ?side2 ?side3 ?side4 A53.out).mono ?_); (case side1 => repeat (first | exact (Kd.V_reads' HO170.out).2.2 | (with_reducible refine Kd.C_alloc ?_ _) | (with_reducible refine Kd.C_drewN ?_ _) | (with_reducible refine Kd.C_drew ?_))); (case side2 => exact (Kd.V_reads' HO170.out).2.1); (case side3 => repeat (first | exact (Kd.R_reads' HO166.out).2.2 | (with_reducible refine Kd.C_alloc ?_ _) | (with_reducible refine Kd.C_drewN ?_ _) | (with_reducible refine Kd.C_drew ?_))); (case side4 => exact (Kd.R_reads' HO166.out).2.1); rintro e w96 ⟨rfl, hb⟩; have n0_ := Aside0.mk (Kd.V_below (by (with_reducible repeat (first | apply Kd.V_alloc | apply Kd.V_drewN | apply Kd.V_drew)); exact HO163.out) hb); have n1_ := Aside0.mk (Kd.R_below (by (with_reducible repeat (first | apply Kd.R_alloc | apply Kd.R_drewN | apply Kd.R_drew)); exact HO166.out) hb); have n2_ := Aside0.mk (Kd.V_below (by (with_reducible repeat (first | apply Kd.V_alloc | apply Kd.V_drewN | apply Kd.V_drew)); exact HO170.out) hb); have n3_ := Aside0.mk (below_step (by repeat (first | (with_reducible first | exact HB.out | apply below_alloc | apply pw_below_drewN | apply below_drew1) | exact HB.out)) hb); clear HO163; clear HO166; clear HO170; clear HB; have HO163 := n0_; have HO166 := n1_; have HO170 := n2_; have HB := n3_; clear n0_ n1_ n2_ n3_; (try clear hb); (try clear hb2); (try clear hk); (try clear hi)))
                                  go_ret
                                  exact ⟨by first | rfl | (simp [errW_none, errW_some] <;> rfl) | (simp [*, errW_none, errW_some] <;> rfl), by repeat (first | (with_reducible first | exact HB.out | apply below_alloc | apply pw_below_drewN | apply below_drew1) | exact HB.out)⟩
                              · rw [if_neg c52] at H
                                have c52b0 : (((x6_40 ++ (⟨#[88, 45, 65, 102, 116, 101, 114, 58, 32, 50, 13, 10, 13, 10, 98, 111, 100, 121]⟩ : ByteArray)).extract (t167 : Int).toNat (x6_40 ++ (⟨#[88, 45, 65, 102, 116, 101, 114, 58, 32, 50, 13, 10, 13, 10, 98, 111, 100, 121]⟩ : ByteArray)).size).toList == ([98, 111, 100, 121] : List UInt8)) = false := beq_eq_false_iff_ne.mpr c52
                                (try have c52z0 := c52b0); (try simp only [ByteArray.size_append, Int.natCast_add, Int.cast_ofNat_Int, show (⟨#[88, 45, 65, 102, 116, 101, 114, 58, 32, 50, 13, 10, 13, 10, 98, 111, 100, 121]⟩ : ByteArray).size = 18 from rfl] at c52z0)
                                have c52b1 : (((x6_40 ++ (⟨#[88, 45, 65, 102, 116, 101, 114, 58, 32, 50, 13, 10, 13, 10, 98, 111, 100, 121]⟩ : ByteArray)).extract (t167 : Int).toNat (x6_40 ++ (⟨#[88, 45, 65, 102, 116, 101, 114, 58, 32, 50, 13, 10, 13, 10, 98, 111, 100, 121]⟩ : ByteArray)).size).toList != ([98, 111, 100, 121] : List UInt8)) = true := bne_iff_ne.mpr c52
                                (try have c52z1 := c52b1); (try simp only [ByteArray.size_append, Int.natCast_add, Int.cast_ofNat_Int, show (⟨#[88, 45, 65, 102, 116, 101, 114, 58, 32, 50, 13, 10, 13, 10, 98, 111, 100, 121]⟩ : ByteArray).size = 18 from rfl] at c52z1)
                                obtain rfl := Option.some.inj H
                                go_wp2_with (first | ((with_reducible refine gate_dst (N := 89) rfl ?_); (try (refine gate_guard (by rfl) ?_; dsimp only)); refine Conv.bytes _ 5 rfl (N := 89) rfl 9 22 _ rfl (x6_40 ++ (⟨#[88, 45, 65, 102, 116, 101, 114, 58, 32, 50, 13, 10, 13, 10, 98, 111, 100, 121]⟩ : ByteArray)) rfl Try.underlying9 Try.underlying22 Try.underlying5 (of_decide_eq_true (by first | (with_reducible assumption) | assumption)) (ok := (fun _ => True)) ((show ∀ k_, wc.heap.size ≤ k_ → (fun _ => True) k_ from fun k_ hk => trivial) _ (Nat.le_refl _)) (Below.refl _ _) (Nat.le_refl _) ?_; intro v162 w97 ho98 hb hg_ hnew_; clear hg_ hnew_; (first | rw [← Ny161.out] at ho98 | (simp only [Int.reduceToNat] at ho98; rw [← Ny161.out] at ho98)); have n0_ := Aside0.mk (Kd.V_lower ho98 (below_size (by repeat (first | (with_reducible first | exact HB.out | apply below_alloc | apply pw_below_drewN | apply below_drew1) | exact HB.out)))); have n1_ := Aside0.mk (below_step (by repeat (first | (with_reducible first | exact HB.out | apply below_alloc | apply pw_below_drewN | apply below_drew1) | exact HB.out)) hb); clear HB; have HO163 := n0_; have HB := n1_; clear n0_ n1_; clear hb ho98; obtain ⟨Ao99, co99, eo99⟩ := Kd.V_slice HO163.out; subst eo99) | ((with_reducible refine gate_callee (f := 6) rfl ?_); refine goesL_ (some 93) rfl rfl Try.func6 (by kernel_rfl) rfl #[.slice Ao99 y161.length co99, .agg #[.int .i64 0, .int .i64 ((x6_40 ++ (⟨#[88, 45, 65, 102, 116, 101, 114, 58, 32, 50, 13, 10, 13, 10, 98, 111, 100, 121]⟩ : ByteArray)).size : Int)]] rfl (by (try simp only [List.map_toArray, List.map_cons, List.map_nil]); first | done | rfl | (simp only [List.length_drop, List.length_take]; rfl) | (simp only [ByteArray.size_append, Int.natCast_add]; rfl)) ?_; (with_reducible refine (header_Of.calls kj44 _ _ y161 0 ((x6_40 ++ (⟨#[88, 45, 65, 102, 116, 101, 114, 58, 32, 50, 13, 10, 13, 10, 98, 111, 100, 121]⟩ : ByteArray)).size : Int) t164 t167 _ ?side1 ?side2 A48.out).mono ?_); (case side1 => repeat (first | exact (Kd.V_reads' HO163.out).2.2 | (with_reducible refine Kd.C_alloc ?_ _) | (with_reducible refine Kd.C_drewN ?_ _) | (with_reducible refine Kd.C_drew ?_))); (case side2 => exact (Kd.V_reads' HO163.out).2.1); rintro e w100 ⟨v165, rfl, ho0, hb⟩; refine ⟨_, rfl, ?_⟩; have n0_ := Aside0.mk (Kd.V_elder' (by (with_reducible repeat (first | apply Kd.V_alloc | apply Kd.V_drewN | apply Kd.V_drew)); exact HO163.out) (Kd.R_base ho0) hb); have n1_ := Aside0.mk (Kd.R_lower ho0 (below_size (by repeat (first | (with_reducible first | exact HB.out | apply below_alloc | apply pw_below_drewN | apply below_drew1) | exact HB.out)))); have n2_ := Aside0.mk (below_step (by repeat (first | (with_reducible first | exact HB.out | apply below_alloc | apply pw_below_drewN | apply below_drew1) | exact HB.out)) hb); clear HO163; clear HB; have HO163 := n0_; have HO166 := n1_; have HB := n2_; clear n0_ n1_ n2_; (try clear hb); (try clear hb2); (try clear hk); (try clear hi); (try clear ho0); obtain ⟨Ao101, co101, eo101⟩ := Kd.R_slice HO166.out; subst eo101))
                                go_ret
                                exact ⟨by first | rfl | (simp [errW_none, errW_some] <;> rfl) | (simp [*, errW_none, errW_some] <;> rfl), by repeat (first | (with_reducible first | exact HB.out | apply below_alloc | apply pw_below_drewN | apply below_drew1) | exact HB.out)⟩
                            · rw [if_neg c51] at H
                              exact absurd H (by simp)
                          · rw [if_neg c50] at H
                            exact absurd H (by simp)
                        · rw [if_neg c49] at H
                          have c49b0 : ((t164.length : Int) == 3) = false := beq_eq_false_iff_ne.mpr c49
                          have c49b1 : ((t164.length : Int) != 3) = true := bne_iff_ne.mpr c49
                          obtain rfl := Option.some.inj H
                          go_wp2_with (first | ((with_reducible refine gate_dst (N := 89) rfl ?_); (try (refine gate_guard (by rfl) ?_; dsimp only)); refine Conv.bytes _ 5 rfl (N := 89) rfl 9 22 _ rfl (x6_40 ++ (⟨#[88, 45, 65, 102, 116, 101, 114, 58, 32, 50, 13, 10, 13, 10, 98, 111, 100, 121]⟩ : ByteArray)) rfl Try.underlying9 Try.underlying22 Try.underlying5 (of_decide_eq_true (by first | (with_reducible assumption) | assumption)) (ok := (fun _ => True)) ((show ∀ k_, wc.heap.size ≤ k_ → (fun _ => True) k_ from fun k_ hk => trivial) _ (Nat.le_refl _)) (Below.refl _ _) (Nat.le_refl _) ?_; intro v162 w102 ho103 hb hg_ hnew_; clear hg_ hnew_; (first | rw [← Ny161.out] at ho103 | (simp only [Int.reduceToNat] at ho103; rw [← Ny161.out] at ho103)); have n0_ := Aside0.mk (Kd.V_lower ho103 (below_size (by repeat (first | (with_reducible first | exact HB.out | apply below_alloc | apply pw_below_drewN | apply below_drew1) | exact HB.out)))); have n1_ := Aside0.mk (below_step (by repeat (first | (with_reducible first | exact HB.out | apply below_alloc | apply pw_below_drewN | apply below_drew1) | exact HB.out)) hb); clear HB; have HO163 := n0_; have HB := n1_; clear n0_ n1_; clear hb ho103; obtain ⟨Ao104, co104, eo104⟩ := Kd.V_slice HO163.out; subst eo104) | ((with_reducible refine gate_callee (f := 6) rfl ?_); refine goesL_ (some 93) rfl rfl Try.func6 (by kernel_rfl) rfl #[.slice Ao104 y161.length co104, .agg #[.int .i64 0, .int .i64 ((x6_40 ++ (⟨#[88, 45, 65, 102, 116, 101, 114, 58, 32, 50, 13, 10, 13, 10, 98, 111, 100, 121]⟩ : ByteArray)).size : Int)]] rfl (by (try simp only [List.map_toArray, List.map_cons, List.map_nil]); first | done | rfl | (simp only [List.length_drop, List.length_take]; rfl) | (simp only [ByteArray.size_append, Int.natCast_add]; rfl)) ?_; (with_reducible refine (header_Of.calls kj44 _ _ y161 0 ((x6_40 ++ (⟨#[88, 45, 65, 102, 116, 101, 114, 58, 32, 50, 13, 10, 13, 10, 98, 111, 100, 121]⟩ : ByteArray)).size : Int) t164 t167 _ ?side1 ?side2 A48.out).mono ?_); (case side1 => repeat (first | exact (Kd.V_reads' HO163.out).2.2 | (with_reducible refine Kd.C_alloc ?_ _) | (with_reducible refine Kd.C_drewN ?_ _) | (with_reducible refine Kd.C_drew ?_))); (case side2 => exact (Kd.V_reads' HO163.out).2.1); rintro e w105 ⟨v165, rfl, ho0, hb⟩; refine ⟨_, rfl, ?_⟩; have n0_ := Aside0.mk (Kd.V_elder' (by (with_reducible repeat (first | apply Kd.V_alloc | apply Kd.V_drewN | apply Kd.V_drew)); exact HO163.out) (Kd.R_base ho0) hb); have n1_ := Aside0.mk (Kd.R_lower ho0 (below_size (by repeat (first | (with_reducible first | exact HB.out | apply below_alloc | apply pw_below_drewN | apply below_drew1) | exact HB.out)))); have n2_ := Aside0.mk (below_step (by repeat (first | (with_reducible first | exact HB.out | apply below_alloc | apply pw_below_drewN | apply below_drew1) | exact HB.out)) hb); clear HO163; clear HB; have HO163 := n0_; have HO166 := n1_; have HB := n2_; clear n0_ n1_ n2_; (try clear hb); (try clear hb2); (try clear hk); (try clear hi); (try clear ho0); obtain ⟨Ao106, co106, eo106⟩ := Kd.R_slice HO166.out; subst eo106))
                          go_ret
                          exact ⟨by first | rfl | (simp [errW_none, errW_some] <;> rfl) | (simp [*, errW_none, errW_some] <;> rfl), by repeat (first | (with_reducible first | exact HB.out | apply below_alloc | apply pw_below_drewN | apply below_drew1) | exact HB.out)⟩
                      · rw [if_neg c47] at H
                        exact absurd H (by simp)
                · rw [if_neg c44] at H
                  exact absurd H (by simp)
  · replace c4 := Bool.eq_false_iff.mpr c4
    subst c4
    have H1 : (some false) = some r := by rw [if_neg (show ¬ (false = true) by decide)] at H; exact H
    clear H
    have H := H1
    clear H1
    obtain rfl := Option.some.inj H
    go_enter Try.func4, Try.ntmps4
    go_wp2_with (first | ((with_reducible refine gate_callee (f := 5) rfl ?_); refine goesL_ (some 14) rfl rfl Try.func5 (by kernel_rfl) rfl #[] rfl (by (try simp only [List.map_toArray, List.map_cons, List.map_nil]); first | done | rfl | (simp only [List.length_drop, List.length_take]; rfl) | (simp only [ByteArray.size_append, Int.natCast_add]; rfl)) ?_; (with_reducible refine (letterboxlaw06_awake.calls  false _ A3.out).mono ?_); rintro e w107 ⟨rfl, hb⟩; refine ⟨_, rfl, ?_⟩; have n0_ := Aside0.mk (below_step (by repeat (first | (with_reducible first | exact HB.out | apply below_alloc | apply pw_below_drewN | apply below_drew1) | exact HB.out)) hb); clear HB; have HB := n0_; clear n0_; (try clear hb); (try clear hb2); (try clear hk); (try clear hi)))
    go_ret
    exact ⟨by first | rfl | (simp [errW_none, errW_some] <;> rfl) | (simp [*, errW_none, errW_some] <;> rfl), by repeat (first | (with_reducible first | exact HB.out | apply below_alloc | apply pw_below_drewN | apply below_drew1) | exact HB.out)⟩

/-- THE ONE PURE STATEMENT of letterboxlaw06_HeaderFolds: yours. -/
def letterboxlaw06_HeaderFolds.Pure : Prop := ∀ (l0 : List ByteArray) (a1 : Bool), (l0.length ≤ maxLen ∧ l0.length * 16 ≤ 140737488351232 ∧ ∀ x0_ ∈ l0, x0_.size ≤ 140737488351232) → ∃ k, letterboxlaw06_HeaderFolds.f k l0 a1 = some true
theorem letterboxlaw06_HeaderFolds.walk (P : letterboxlaw06_HeaderFolds.Pure) (a0 : Option Addr) (cap0 : Nat) (l0 : List ByteArray) (a1 : Bool) (w : World) (hC0 : Kd.C Kd.string w a0 l0.length l0) (hc0 : l0.length ≤ cap0) (hg0 : (l0.length ≤ maxLen ∧ l0.length * 16 ≤ 140737488351232 ∧ ∀ x0_ ∈ l0, x0_.size ≤ 140737488351232)) :
    Calls Try.prog 4 #[.slice a0 l0.length cap0, .bool a1] w fun e w' => e = .returned (.bool true) ∧ Below w.heap.size w w' := by
  obtain ⟨k, h⟩ := P l0 a1 hg0
  refine (letterboxlaw06_HeaderFolds.calls k _ _ l0 a1 true w hC0 hc0 h).mono ?_
  rintro e w' ⟨rfl, hd⟩
  exact ⟨rfl, hd⟩

end Go.Proofs.Ytckmfmfhhojmfaa.P
