-- Written by a program of this session (wip/tools/mk.sh) for this claim: it runs the kit's print with contracts of our own. Lean checks it.
import Derived.Test.YtbjbagocnnffaaaDoorPx0
import Derived.Test.YtbjbagocnnffaaaDoorWRepsOne
import Derived.Test.YtbjbagocnnffaaaDoorZStr
import Derived.Test.YtbjbagocnnffaaaDoorPx13
namespace Go.Proofs.YtbjbagocnnffaaaDoor.P
open Go.RowKit Go.Proofs.YtbjbagocnnffaaaDoorW.PrintWords Go.Proofs.YtbjbagocnnffaaaDoorW.PrintLast Go.Proofs.YtbjbagocnnffaaaDoorW.PrintMore
attribute [-simp] Int.tmod_tmod_of_dvd
attribute [local go_sem] max2_int min2_int max_two min_two max_three min_three max_four min_four   -- for this text's walks alone
set_option linter.unusedVariables false
set_option linter.unusedSimpArgs false

/-! ### letterboxref15_names: function 26 -/
mutual
def letterboxref15_names.l0 : Nat → ByteArray → List ByteArray → Option (List ByteArray × Bool)
 | 0, _, _ => none
 | k + 1, x0, x4 => if x0.toList = ([] : List UInt8) then (letterboxref15_names.j1 k x0 x4 0 (⟨#[]⟩ : ByteArray) false) else (if 0 < (x0.size : Int) then (letterboxref15_names.j1 k x0 x4 0 (⟨#[]⟩ : ByteArray) ((bt x0 0) == 34)) else (none))
def letterboxref15_names.j1 : Nat → ByteArray → List ByteArray → Int → ByteArray → Bool → Option (List ByteArray × Bool)
 | 0, _, _, _, _, _ => none
 | k + 1, x0, x4, x5, x6, x13 => if x13 = true then (letterboxref15_names.l1 k x0 x4 1 x6) else (letterboxref15_names.l2 k x0 x4 x5)
def letterboxref15_names.j5 : Nat → ByteArray → List ByteArray → Int → ByteArray → Option (List ByteArray × Bool)
 | 0, _, _, _, _ => none
 | k + 1, x0, x4, x5, x6 => if x4.length < 8796093022208 then ((some (x4 ++ [x6] : List ByteArray)).bind fun y244 => (if x5 = (x0.size : Int) then (some (y244, true)) else (if 0 ≤ x5 then (if x5 < (x0.size : Int) then (if (bt x0 x5) = 32 then (if 0 ≤ (wrap64 (x5 + 1)) then (if (wrap64 (x5 + 1)) ≤ (x0.size : Int) then (letterboxref15_names.l0 k (x0.extract ((wrap64 (x5 + 1)) : Int).toNat x0.size) y244) else (none)) else (none)) else (some (([] : List ByteArray), false))) else (none)) else (none)))) else (none)
def letterboxref15_names.l1 : Nat → ByteArray → List ByteArray → Int → ByteArray → Option (List ByteArray × Bool)
 | 0, _, _, _, _ => none
 | k + 1, x0, x4, x5, x6 => if x5 < (x0.size : Int) then (if 0 ≤ x5 then (letterboxref15_names.j3 k x0 x4 x5 x6 ((bt x0 x5) != 34)) else (none)) else (letterboxref15_names.j3 k x0 x4 x5 x6 false)
def letterboxref15_names.j3 : Nat → ByteArray → List ByteArray → Int → ByteArray → Bool → Option (List ByteArray × Bool)
 | 0, _, _, _, _, _ => none
 | k + 1, x0, x4, x5, x6, x23 => if x23 = true then (if 0 ≤ x5 then (if x5 < (x0.size : Int) then (if (bt x0 x5) = 92 then (if (wrap64 (x5 + 1)) < (x0.size : Int) then (if 0 ≤ (wrap64 (x5 + 1)) then (if (wrap64 (x5 + 1)) ≤ (wrap64 ((wrap64 (x5 + 1)) + 1)) then (if (wrap64 ((wrap64 (x5 + 1)) + 1)) ≤ (x0.size : Int) then (if x6.size + (x0.extract ((wrap64 (x5 + 1)) : Int).toNat ((wrap64 ((wrap64 (x5 + 1)) + 1)) : Int).toNat).size ≤ 9223372036854775807 then (letterboxref15_names.l1 k x0 x4 (wrap64 ((wrap64 (x5 + 1)) + 1)) (x6 ++ (x0.extract ((wrap64 (x5 + 1)) : Int).toNat ((wrap64 ((wrap64 (x5 + 1)) + 1)) : Int).toNat))) else (none)) else (none)) else (none)) else (none)) else (letterboxref15_names.l1 k x0 x4 (wrap64 ((wrap64 (x5 + 1)) + 1)) x6)) else (if x5 ≤ (wrap64 (x5 + 1)) then (if (wrap64 (x5 + 1)) ≤ (x0.size : Int) then (if x6.size + (x0.extract (x5 : Int).toNat ((wrap64 (x5 + 1)) : Int).toNat).size ≤ 9223372036854775807 then (letterboxref15_names.l1 k x0 x4 (wrap64 (x5 + 1)) (x6 ++ (x0.extract (x5 : Int).toNat ((wrap64 (x5 + 1)) : Int).toNat))) else (none)) else (none)) else (none))) else (none)) else (none)) else (if (wrap64 (x5 + 1)) > (x0.size : Int) then (some (([] : List ByteArray), false)) else ((letterboxref07_Quoted.f k x6).bind fun t241 => (if 0 ≤ (wrap64 (x5 + 1)) then (if (wrap64 (x5 + 1)) ≤ (x0.size : Int) then (if t241.toList = (x0.extract 0 ((wrap64 (x5 + 1)) : Int).toNat).toList then (letterboxref15_names.j5 k x0 x4 (wrap64 (x5 + 1)) x6) else (some (([] : List ByteArray), false))) else (none)) else (none))))
def letterboxref15_names.l2 : Nat → ByteArray → List ByteArray → Int → Option (List ByteArray × Bool)
 | 0, _, _, _ => none
 | k + 1, x0, x4, x5 => if x5 < (x0.size : Int) then (if 0 ≤ x5 then (if (bt x0 x5) = 32 then (if x5 ≤ (x0.size : Int) then ((letterboxref15_name.f k (x0.extract 0 (x5 : Int).toNat)).bind fun t242 => (if t242.toList = (x0.extract 0 (x5 : Int).toNat).toList then (letterboxref15_names.j5 k x0 x4 x5 (x0.extract 0 (x5 : Int).toNat)) else (some (([] : List ByteArray), false)))) else (none)) else (letterboxref15_names.l2 k x0 x4 (wrap64 (x5 + 1)))) else (none)) else (if 0 ≤ x5 then (if x5 ≤ (x0.size : Int) then ((letterboxref15_name.f k (x0.extract 0 (x5 : Int).toNat)).bind fun t243 => (if t243.toList = (x0.extract 0 (x5 : Int).toNat).toList then (letterboxref15_names.j5 k x0 x4 x5 (x0.extract 0 (x5 : Int).toNat)) else (some (([] : List ByteArray), false)))) else (none)) else (none))
end
def letterboxref15_names.f (k : Nat) (a0 : ByteArray) : Option (List ByteArray × Bool) := letterboxref15_names.l0 k a0 ([] : List ByteArray)
theorem letterboxref15_names.mono_l : ∀ k, (∀ y0 y1, LeO (letterboxref15_names.l0 k y0 y1) (letterboxref15_names.l0 (k + 1) y0 y1)) ∧ (∀ y0 y1 y2 y3 y4, LeO (letterboxref15_names.j1 k y0 y1 y2 y3 y4) (letterboxref15_names.j1 (k + 1) y0 y1 y2 y3 y4)) ∧ (∀ y0 y1 y2 y3, LeO (letterboxref15_names.j5 k y0 y1 y2 y3) (letterboxref15_names.j5 (k + 1) y0 y1 y2 y3)) ∧ (∀ y0 y1 y2 y3, LeO (letterboxref15_names.l1 k y0 y1 y2 y3) (letterboxref15_names.l1 (k + 1) y0 y1 y2 y3)) ∧ (∀ y0 y1 y2 y3 y4, LeO (letterboxref15_names.j3 k y0 y1 y2 y3 y4) (letterboxref15_names.j3 (k + 1) y0 y1 y2 y3 y4)) ∧ (∀ y0 y1 y2, LeO (letterboxref15_names.l2 k y0 y1 y2) (letterboxref15_names.l2 (k + 1) y0 y1 y2))
 | 0 => ⟨fun _ _ r h => by simp [letterboxref15_names.l0] at h, fun _ _ _ _ _ r h => by simp [letterboxref15_names.j1] at h, fun _ _ _ _ r h => by simp [letterboxref15_names.j5] at h, fun _ _ _ _ r h => by simp [letterboxref15_names.l1] at h, fun _ _ _ _ _ r h => by simp [letterboxref15_names.j3] at h, fun _ _ _ r h => by simp [letterboxref15_names.l2] at h⟩
 | k + 1 => by
  obtain ⟨ih0, ih1, ih2, ih3, ih4, ih5⟩ := letterboxref15_names.mono_l k
  refine ⟨?_, ?_, ?_, ?_, ?_, ?_⟩
  ·intro y0 y1
   unfold letterboxref15_names.l0
   repeat' first
   | (with_reducible exact ih0 _ _)
   | (with_reducible exact ih1 _ _ _ _ _)
   | (with_reducible exact ih2 _ _ _ _)
   | (with_reducible exact ih3 _ _ _ _)
   | (with_reducible exact ih4 _ _ _ _ _)
   | (with_reducible exact ih5 _ _ _)
   | (with_reducible exact letterboxref07_Quoted.mono _ _)
   | (with_reducible exact letterboxref15_name.mono _ _)
   | (with_reducible exact LeO.refl _)
   | (with_reducible exact LeO.none _)
   | (with_reducible refine LeO.ite ?_ ?_)
   | (with_reducible refine LeO.bind ?_ (fun _ => ?_))
   | exact ih0 _ _
   | exact ih1 _ _ _ _ _
   | exact ih2 _ _ _ _
   | exact ih3 _ _ _ _
   | exact ih4 _ _ _ _ _
   | exact ih5 _ _ _
   | exact letterboxref07_Quoted.mono _ _
   | exact letterboxref15_name.mono _ _
   | exact LeO.none _
   | refine LeO.ite ?_ ?_
   | refine LeO.bind ?_ (fun _ => ?_)
  ·intro y0 y1 y2 y3 y4
   unfold letterboxref15_names.j1
   repeat' first
   | (with_reducible exact ih0 _ _)
   | (with_reducible exact ih1 _ _ _ _ _)
   | (with_reducible exact ih2 _ _ _ _)
   | (with_reducible exact ih3 _ _ _ _)
   | (with_reducible exact ih4 _ _ _ _ _)
   | (with_reducible exact ih5 _ _ _)
   | (with_reducible exact letterboxref07_Quoted.mono _ _)
   | (with_reducible exact letterboxref15_name.mono _ _)
   | (with_reducible exact LeO.refl _)
   | (with_reducible exact LeO.none _)
   | (with_reducible refine LeO.ite ?_ ?_)
   | (with_reducible refine LeO.bind ?_ (fun _ => ?_))
   | exact ih0 _ _
   | exact ih1 _ _ _ _ _
   | exact ih2 _ _ _ _
   | exact ih3 _ _ _ _
   | exact ih4 _ _ _ _ _
   | exact ih5 _ _ _
   | exact letterboxref07_Quoted.mono _ _
   | exact letterboxref15_name.mono _ _
   | exact LeO.none _
   | refine LeO.ite ?_ ?_
   | refine LeO.bind ?_ (fun _ => ?_)
  ·intro y0 y1 y2 y3
   unfold letterboxref15_names.j5
   repeat' first
   | (with_reducible exact ih0 _ _)
   | (with_reducible exact ih1 _ _ _ _ _)
   | (with_reducible exact ih2 _ _ _ _)
   | (with_reducible exact ih3 _ _ _ _)
   | (with_reducible exact ih4 _ _ _ _ _)
   | (with_reducible exact ih5 _ _ _)
   | (with_reducible exact letterboxref07_Quoted.mono _ _)
   | (with_reducible exact letterboxref15_name.mono _ _)
   | (with_reducible exact LeO.refl _)
   | (with_reducible exact LeO.none _)
   | (with_reducible refine LeO.ite ?_ ?_)
   | (with_reducible refine LeO.bind ?_ (fun _ => ?_))
   | exact ih0 _ _
   | exact ih1 _ _ _ _ _
   | exact ih2 _ _ _ _
   | exact ih3 _ _ _ _
   | exact ih4 _ _ _ _ _
   | exact ih5 _ _ _
   | exact letterboxref07_Quoted.mono _ _
   | exact letterboxref15_name.mono _ _
   | exact LeO.none _
   | refine LeO.ite ?_ ?_
   | refine LeO.bind ?_ (fun _ => ?_)
  ·intro y0 y1 y2 y3
   unfold letterboxref15_names.l1
   repeat' first
   | (with_reducible exact ih0 _ _)
   | (with_reducible exact ih1 _ _ _ _ _)
   | (with_reducible exact ih2 _ _ _ _)
   | (with_reducible exact ih3 _ _ _ _)
   | (with_reducible exact ih4 _ _ _ _ _)
   | (with_reducible exact ih5 _ _ _)
   | (with_reducible exact letterboxref07_Quoted.mono _ _)
   | (with_reducible exact letterboxref15_name.mono _ _)
   | (with_reducible exact LeO.refl _)
   | (with_reducible exact LeO.none _)
   | (with_reducible refine LeO.ite ?_ ?_)
   | (with_reducible refine LeO.bind ?_ (fun _ => ?_))
   | exact ih0 _ _
   | exact ih1 _ _ _ _ _
   | exact ih2 _ _ _ _
   | exact ih3 _ _ _ _
   | exact ih4 _ _ _ _ _
   | exact ih5 _ _ _
   | exact letterboxref07_Quoted.mono _ _
   | exact letterboxref15_name.mono _ _
   | exact LeO.none _
   | refine LeO.ite ?_ ?_
   | refine LeO.bind ?_ (fun _ => ?_)
  ·intro y0 y1 y2 y3 y4
   unfold letterboxref15_names.j3
   repeat' first
   | (with_reducible exact ih0 _ _)
   | (with_reducible exact ih1 _ _ _ _ _)
   | (with_reducible exact ih2 _ _ _ _)
   | (with_reducible exact ih3 _ _ _ _)
   | (with_reducible exact ih4 _ _ _ _ _)
   | (with_reducible exact ih5 _ _ _)
   | (with_reducible exact letterboxref07_Quoted.mono _ _)
   | (with_reducible exact letterboxref15_name.mono _ _)
   | (with_reducible exact LeO.refl _)
   | (with_reducible exact LeO.none _)
   | (with_reducible refine LeO.ite ?_ ?_)
   | (with_reducible refine LeO.bind ?_ (fun _ => ?_))
   | exact ih0 _ _
   | exact ih1 _ _ _ _ _
   | exact ih2 _ _ _ _
   | exact ih3 _ _ _ _
   | exact ih4 _ _ _ _ _
   | exact ih5 _ _ _
   | exact letterboxref07_Quoted.mono _ _
   | exact letterboxref15_name.mono _ _
   | exact LeO.none _
   | refine LeO.ite ?_ ?_
   | refine LeO.bind ?_ (fun _ => ?_)
  ·intro y0 y1 y2
   unfold letterboxref15_names.l2
   repeat' first
   | (with_reducible exact ih0 _ _)
   | (with_reducible exact ih1 _ _ _ _ _)
   | (with_reducible exact ih2 _ _ _ _)
   | (with_reducible exact ih3 _ _ _ _)
   | (with_reducible exact ih4 _ _ _ _ _)
   | (with_reducible exact ih5 _ _ _)
   | (with_reducible exact letterboxref07_Quoted.mono _ _)
   | (with_reducible exact letterboxref15_name.mono _ _)
   | (with_reducible exact LeO.refl _)
   | (with_reducible exact LeO.none _)
   | (with_reducible refine LeO.ite ?_ ?_)
   | (with_reducible refine LeO.bind ?_ (fun _ => ?_))
   | exact ih0 _ _
   | exact ih1 _ _ _ _ _
   | exact ih2 _ _ _ _
   | exact ih3 _ _ _ _
   | exact ih4 _ _ _ _ _
   | exact ih5 _ _ _
   | exact letterboxref07_Quoted.mono _ _
   | exact letterboxref15_name.mono _ _
   | exact LeO.none _
   | refine LeO.ite ?_ ?_
   | refine LeO.bind ?_ (fun _ => ?_)
theorem letterboxref15_names.mono : ∀ a0 k, LeO (letterboxref15_names.f k a0) (letterboxref15_names.f (k + 1) a0) := by
 intro a0 k
 obtain ⟨ih0, ih1, ih2, ih3, ih4, ih5⟩ := letterboxref15_names.mono_l k
 unfold letterboxref15_names.f
 repeat' first
   | (with_reducible exact ih0 _ _)
   | (with_reducible exact ih1 _ _ _ _ _)
   | (with_reducible exact ih2 _ _ _ _)
   | (with_reducible exact ih3 _ _ _ _)
   | (with_reducible exact ih4 _ _ _ _ _)
   | (with_reducible exact ih5 _ _ _)
   | (with_reducible exact letterboxref07_Quoted.mono _ _)
   | (with_reducible exact letterboxref15_name.mono _ _)
   | (with_reducible exact LeO.refl _)
   | (with_reducible exact LeO.none _)
   | (with_reducible refine LeO.ite ?_ ?_)
   | (with_reducible refine LeO.bind ?_ (fun _ => ?_))
   | exact ih0 _ _
   | exact ih1 _ _ _ _ _
   | exact ih2 _ _ _ _
   | exact ih3 _ _ _ _
   | exact ih4 _ _ _ _ _
   | exact ih5 _ _ _
   | exact letterboxref07_Quoted.mono _ _
   | exact letterboxref15_name.mono _ _
   | exact LeO.none _
   | refine LeO.ite ?_ ?_
   | refine LeO.bind ?_ (fun _ => ?_)
set_option maxHeartbeats 8000000 in
set_option maxRecDepth 100000 in
theorem letterboxref15_names.calls (k : Nat) (a0 : ByteArray) (r1 : List ByteArray) (r2 : Bool) (w : World) (h : letterboxref15_names.f k a0 = some (r1, r2)) :
  Calls Tryd.prog 26 #[.string a0] w fun e w' => ∃ v0_ : Value, e = .returned (.tuple #[v0_, .bool r2]) ∧ Kd.R Kd.string 9 w' w.heap.size (fun _ => True) v0_ r1 ∧ Below w.heap.size w w' := by
 have hw8_ : ∀ x_ : Int, IntKind.u8.wrap x_ = x_ % 256 := IntKind.wrap_u8
 have HB := Aside0.mk (Below.refl w.heap.size w)
 have H : (letterboxref15_names.l0 k a0 ([] : List ByteArray)) = some (r1, r2) := h
 clear h
 have H' := Aside0.mk H
 clear H
 go_enter Tryd.func26, Tryd.ntmps26
 go_wp2
 repeat (go_quiet (fail); try go_wp2)
 go_loopg [0, 4] k (fun kq v0 v4 w' => ∃ (x0_1 : ByteArray) (x4_1 : List ByteArray), v0 = .string x0_1 ∧ Aside0 (letterboxref15_names.l0 kq x0_1 x4_1 = some (r1, r2)) ∧ Aside0 (kq ≤ k) ∧ Aside0 (Kd.R Kd.string 9 w' w.heap.size (fun _ => True) v4 x4_1) ∧ Aside0 (Below w.heap.size w w'))
 case atStart => exact ⟨(a0), (([] : List ByteArray)), qr_, H', ⟨Nat.le_refl _⟩, ⟨qn_⟩, ⟨qb_ HB.out⟩⟩
 case round =>
  clear H'
  obtain ⟨x0_1, x4_1, rfl, HA, HK1, HO_4, HB⟩ := hrel
  cases gk with
  | zero => exact absurd HA.out (by simp [letterboxref15_names.l0])
  | succ k1 =>
   have H := HA.out
   clear HA
   simp only [letterboxref15_names.l0] at H
   have HC2 := Aside0.mk H
   clear H
   go_upto_region 4 with (fail)
   repeat (go_quiet (fail); go_upto_region 4 with (fail))
   go_cut [13] (fun v13 wc => ∃ (kq : Nat) (x13_1 : Bool), v13 = .bool x13_1 ∧ Aside0 (letterboxref15_names.j1 kq x0_1 x4_1 0 (⟨#[]⟩ : ByteArray) x13_1 = some (r1, r2)) ∧ Aside0 (kq ≤ k1) ∧ Aside0 (Kd.R Kd.string 9 wc w.heap.size (fun _ => True) u4 x4_1) ∧ Aside0 (Below w.heap.size w wc))
   case first =>
    have H := HC2.out
    clear HC2
    by_cases c3 : x0_1.toList = ([] : List UInt8)
    ·rw [if_pos c3] at H
     have c3b0 : (x0_1.toList == ([] : List UInt8)) = true := beq_iff_eq.mpr c3
     have c3b1 : (x0_1.toList != ([] : List UInt8)) = false := bne_eq_false_iff_eq.mpr c3
     clear c3
     (first | rw [c3b0] | (simp only [i64_w, i32_w]; rw [c3b0]) | skip)
     have H' := Aside0.mk H
     clear H
     go_wp2
     repeat (go_quiet (fail); try go_wp2)
     go_meet
     case rel => exact ⟨_, (false), qr_, H', ⟨by have := HK1.out; first | omega | exact Nat.le_refl _⟩, ⟨ql_ HO_4.out⟩, ⟨qb_ HB.out⟩⟩
    ·rw [if_neg c3] at H
     have c3b0 : (x0_1.toList == ([] : List UInt8)) = false := beq_eq_false_iff_ne.mpr c3
     have c3b1 : (x0_1.toList != ([] : List UInt8)) = true := bne_iff_ne.mpr c3
     (first | rw [c3b0] | (simp only [i64_w, i32_w]; rw [c3b0]) | skip)
     by_cases c4 : 0 < (x0_1.size : Int)
     ·rw [if_pos c4] at H
      have c4b0 : decide (0 < (x0_1.size : Int)) = true := decide_eq_true c4
      have c4b1 : decide (0 < x0_1.size) = true := decide_eq_true (by omega)
      clear c4
      have H' := Aside0.mk H
      clear H
      have p5 : 0 ≤ (0 : Int) := (by omega)
      have q5 : 0 < x0_1.size := (by have : (0 : Int) < (x0_1.size : Int) := qd_; omega)
      have hx5 : ∀ h : 0 < x0_1.size, ((x0_1[0]'h).toNat : Int) = bt x0_1 0 := bt_at x0_1 0
      clear p5
      have qi5 : (0 < (x0_1.size : Int)) = True := eq_true (qd_)
      replace q5 := eq_true q5
      go_wp2
      repeat (go_quiet (fail); try go_wp2)
      go_meet
      case rel => exact ⟨_, (((bt x0_1 0) == 34)), qr_, H', ⟨by have := HK1.out; first | omega | exact Nat.le_refl _⟩, ⟨ql_ HO_4.out⟩, ⟨qb_ HB.out⟩⟩
     ·rw [if_neg c4] at H
      exact absurd H (by simp)
   case rest =>
    clear HC2
    obtain ⟨kq, x13_1, rfl, HA, HJ1, HO_4, HB⟩ := hcut
    cases kq with
    | zero => exact absurd HA.out (by simp [letterboxref15_names.j1])
    | succ kj1 =>
     have H := HA.out
     clear HA
     simp only [letterboxref15_names.j1] at H
     have HC6 := Aside0.mk H
     clear H
     go_upto_if 13 with (fail)
     repeat (go_quiet (fail); go_upto_if 13 with (fail))
     go_cut [5, 6] (fun v5 v6 wc => ∃ (kq : Nat) (x5_5 : Int) (x6_5 : ByteArray), v5 = .int .i64 x5_5 ∧ v6 = .string x6_5 ∧ Aside0 (letterboxref15_names.j5 kq x0_1 x4_1 x5_5 x6_5 = some (r1, r2)) ∧ Aside0 (kq ≤ kj1) ∧ Aside0 (Kd.R Kd.string 9 wc w.heap.size (fun _ => True) u4 x4_1) ∧ Aside0 (Below w.heap.size w wc))
     case first =>
      have H := HC6.out
      clear HC6
      by_cases c7 : x13_1 = true
      ·subst c7
       have H1 : (letterboxref15_names.l1 kj1 x0_1 x4_1 1 (⟨#[]⟩ : ByteArray)) = some (r1, r2) := by rw [if_pos rfl] at H; exact H
       clear H
       have H := H1
       clear H1
       have H' := Aside0.mk H
       clear H
       go_wp2
       repeat (go_quiet (fail); try go_wp2)
       go_loopg [5, 6] kj1 (fun kq v5 v6 w' => ∃ (x5_3 : Int) (x6_3 : ByteArray), v5 = .int .i64 x5_3 ∧ v6 = .string x6_3 ∧ Aside0 (letterboxref15_names.l1 kq x0_1 x4_1 x5_3 x6_3 = some (r1, r2)) ∧ Aside0 (kq ≤ kj1) ∧ Aside0 (Kd.R Kd.string 9 w' w.heap.size (fun _ => True) u4 x4_1) ∧ Aside0 (Below w.heap.size w w'))
       case atStart => exact ⟨(1), ((⟨#[]⟩ : ByteArray)), qr_, qr_, H', ⟨Nat.le_refl _⟩, ⟨ql_ HO_4.out⟩, ⟨qb_ HB.out⟩⟩
       case round =>
        clear H'
        (try clear c7)
        obtain ⟨x5_3, x6_3, rfl, rfl, HA, HK3, HO_4, HB⟩ := hrel
        cases gk with
        | zero => exact absurd HA.out (by simp [letterboxref15_names.l1])
        | succ k3 =>
         have H := HA.out
         clear HA
         simp only [letterboxref15_names.l1] at H
         have HC8 := Aside0.mk H
         clear H
         go_upto_region 6 with (fail)
         repeat (go_quiet (fail); go_upto_region 6 with (fail))
         go_cut [23] (fun v23 wc => ∃ (kq : Nat) (x23_7 : Bool), v23 = .bool x23_7 ∧ Aside0 (letterboxref15_names.j3 kq x0_1 x4_1 x5_3 x6_3 x23_7 = some (r1, r2)) ∧ Aside0 (kq ≤ k3) ∧ Aside0 (Kd.R Kd.string 9 wc w.heap.size (fun _ => True) u4 x4_1) ∧ Aside0 (Below w.heap.size w wc))
         case first =>
          have H := HC8.out
          clear HC8
          by_cases c9 : x5_3 < (x0_1.size : Int)
          ·rw [if_pos c9] at H
           have c9b0 : decide (x5_3 < (x0_1.size : Int)) = true := decide_eq_true c9
           clear c9
           (first | rw [c9b0] | (simp only [i64_w, i32_w]; rw [c9b0]) | skip)
           by_cases c10 : 0 ≤ x5_3
           ·rw [if_pos c10] at H
            have c10b0 : decide (0 ≤ x5_3) = true := decide_eq_true c10
            clear c10
            have H' := Aside0.mk H
            clear H
            have p11 : 0 ≤ (x5_3 : Int) := qd_
            have q11 : x5_3 < (x0_1.size : Int) := qd_
            have hx11 := bt_at x0_1 x5_3
            replace p11 := eq_true p11
            replace q11 := eq_true q11
            go_wp2
            repeat (go_quiet (fail); try go_wp2)
            go_meet
            case rel => exact ⟨_, (((bt x0_1 x5_3) != 34)), qr_, H', ⟨by have := HK1.out; have := HJ1.out; have := HK3.out; first | omega | exact Nat.le_refl _⟩, ⟨ql_ HO_4.out⟩, ⟨qb_ HB.out⟩⟩
           ·rw [if_neg c10] at H
            exact absurd H (by simp)
          ·rw [if_neg c9] at H
           have c9b0 : decide (x5_3 < (x0_1.size : Int)) = false := decide_eq_false c9
           clear c9
           (first | rw [c9b0] | (simp only [i64_w, i32_w]; rw [c9b0]) | skip)
           have H' := Aside0.mk H
           clear H
           go_wp2
           repeat (go_quiet (fail); try go_wp2)
           go_meet
           case rel => exact ⟨_, (false), qr_, H', ⟨by have := HK1.out; have := HJ1.out; have := HK3.out; first | omega | exact Nat.le_refl _⟩, ⟨ql_ HO_4.out⟩, ⟨qb_ HB.out⟩⟩
         case rest =>
          clear HC8
          obtain ⟨kq, x23_7, rfl, HA, HJ7, HO_4, HB⟩ := hcut
          cases kq with
          | zero => exact absurd HA.out (by simp [letterboxref15_names.j3])
          | succ kj7 =>
           have H := HA.out
           clear HA
           simp only [letterboxref15_names.j3] at H
           by_cases c12 : x23_7 = true
           ·subst c12
            have H1 : (if 0 ≤ x5_3 then (if x5_3 < (x0_1.size : Int) then (if (bt x0_1 x5_3) = 92 then (if (wrap64 (x5_3 + 1)) < (x0_1.size : Int) then (if 0 ≤ (wrap64 (x5_3 + 1)) then (if (wrap64 (x5_3 + 1)) ≤ (wrap64 ((wrap64 (x5_3 + 1)) + 1)) then (if (wrap64 ((wrap64 (x5_3 + 1)) + 1)) ≤ (x0_1.size : Int) then (if x6_3.size + (x0_1.extract ((wrap64 (x5_3 + 1)) : Int).toNat ((wrap64 ((wrap64 (x5_3 + 1)) + 1)) : Int).toNat).size ≤ 9223372036854775807 then (letterboxref15_names.l1 kj7 x0_1 x4_1 (wrap64 ((wrap64 (x5_3 + 1)) + 1)) (x6_3 ++ (x0_1.extract ((wrap64 (x5_3 + 1)) : Int).toNat ((wrap64 ((wrap64 (x5_3 + 1)) + 1)) : Int).toNat))) else (none)) else (none)) else (none)) else (none)) else (letterboxref15_names.l1 kj7 x0_1 x4_1 (wrap64 ((wrap64 (x5_3 + 1)) + 1)) x6_3)) else (if x5_3 ≤ (wrap64 (x5_3 + 1)) then (if (wrap64 (x5_3 + 1)) ≤ (x0_1.size : Int) then (if x6_3.size + (x0_1.extract (x5_3 : Int).toNat ((wrap64 (x5_3 + 1)) : Int).toNat).size ≤ 9223372036854775807 then (letterboxref15_names.l1 kj7 x0_1 x4_1 (wrap64 (x5_3 + 1)) (x6_3 ++ (x0_1.extract (x5_3 : Int).toNat ((wrap64 (x5_3 + 1)) : Int).toNat))) else (none)) else (none)) else (none))) else (none)) else (none)) = some (r1, r2) := by rw [if_pos rfl] at H; exact H
            clear H
            have H := H1
            clear H1
            by_cases c13 : 0 ≤ x5_3
            ·rw [if_pos c13] at H
             have c13b0 : decide (0 ≤ x5_3) = true := decide_eq_true c13
             clear c13
             by_cases c14 : x5_3 < (x0_1.size : Int)
             ·rw [if_pos c14] at H
              have c14b0 : decide (x5_3 < (x0_1.size : Int)) = true := decide_eq_true c14
              clear c14
              by_cases c16 : (bt x0_1 x5_3) = 92
              ·rw [if_pos c16] at H
               have c16b0 : ((bt x0_1 x5_3) == 92) = true := beq_iff_eq.mpr c16
               have c16b1 : ((bt x0_1 x5_3) != 92) = false := bne_eq_false_iff_eq.mpr c16
               clear c16
               by_cases c17 : (wrap64 (x5_3 + 1)) < (x0_1.size : Int)
               ·rw [if_pos c17] at H
                have c17b0 : decide ((wrap64 (x5_3 + 1)) < (x0_1.size : Int)) = true := decide_eq_true c17
                clear c17
                obtain ⟨ji18, hji18⟩ : ∃ j_ : Int, (wrap64 (x5_3 + 1)) = j_ := ⟨_, rfl⟩
                replace H : (if 0 ≤ (ji18) then (if (ji18) ≤ (wrap64 ((ji18) + 1)) then (if (wrap64 ((ji18) + 1)) ≤ (x0_1.size : Int) then (if x6_3.size + (x0_1.extract ((ji18) : Int).toNat ((wrap64 ((ji18) + 1)) : Int).toNat).size ≤ 9223372036854775807 then (letterboxref15_names.l1 kj7 x0_1 x4_1 (wrap64 ((ji18) + 1)) (x6_3 ++ (x0_1.extract ((ji18) : Int).toNat ((wrap64 ((ji18) + 1)) : Int).toNat))) else (none)) else (none)) else (none)) else (none)) = some (r1, r2) := by first | (rw [hji18] at H; exact H) | (simp only [hji18] at H ⊢; exact H)
                (try rw [hji18] at c17b0)
                have hji18w : (IntKind.i64.wrap (x5_3 + 1)) = ji18 := (i64_w _).trans hji18
                by_cases c19 : 0 ≤ (ji18)
                ·rw [if_pos c19] at H
                 have c19b0 := eq_true c19
                 have c19b1 : decide (0 ≤ (ji18)) = true := decide_eq_true c19
                 clear c19
                 by_cases c20 : (ji18) ≤ (wrap64 ((ji18) + 1))
                 ·rw [if_pos c20] at H
                  have c20b0 := eq_true c20
                  have c20b1 : decide ((ji18) ≤ (wrap64 ((ji18) + 1))) = true := decide_eq_true c20
                  by_cases c21 : (wrap64 ((ji18) + 1)) ≤ (x0_1.size : Int)
                  ·rw [if_pos c21] at H
                   have c21b0 := eq_true c21
                   have c21b1 : decide ((wrap64 ((ji18) + 1)) ≤ (x0_1.size : Int)) = true := decide_eq_true c21
                   by_cases c22 : x6_3.size + (x0_1.extract ((ji18) : Int).toNat ((wrap64 ((ji18) + 1)) : Int).toNat).size ≤ 9223372036854775807
                   ·rw [if_pos c22] at H
                    have c22b0 := eq_true c22
                    have c22b1 : decide (x6_3.size + (x0_1.extract ((ji18) : Int).toNat ((wrap64 ((ji18) + 1)) : Int).toNat).size ≤ 9223372036854775807) = true := decide_eq_true c22
                    try have c22b2 : (9223372036854775807 < x6_3.size + (x0_1.extract ((ji18) : Int).toNat ((wrap64 ((ji18) + 1)) : Int).toNat).size) = False := eq_false (Nat.not_lt.2 c22)
                    (try (have c22h := c22; simp only [ByteArray.size_append, ByteArray.size_extract, Int.toNat_natCast, Nat.sub_zero, Nat.min_self, ByteArray.extract_zero_size] at c22h; have c22b7 := eq_false (Nat.not_lt.2 c22h); clear c22h))
                    try have c22b5 : (9223372036854775807 < x6_3.size + (((wrap64 ((ji18) + 1)) : Int).toNat - ((ji18) : Int).toNat)) = False := eq_false (Nat.not_lt.2 (by have h_ := c22; (try have e0_ : (wrap64 ((ji18) + 1)) ≤ (x0_1.size : Int) := qd_); simp only [ByteArray.size_append, ByteArray.size_extract] at h_ ⊢; omega))
                    have H' := Aside0.mk H
                    clear H
                    have p15 : 0 ≤ (x5_3 : Int) := qd_
                    have q15 : x5_3 < (x0_1.size : Int) := qd_
                    have hx15 := bt_at x0_1 x5_3
                    replace p15 := eq_true p15
                    replace q15 := eq_true q15
                    go_wp2
                    repeat (go_quiet (fail); try go_wp2)
                    go_roundg kj7
                    case measure => have := HK1.out; have := HJ1.out; have := HK3.out; have := HJ7.out; omega
                    case rel => exact ⟨(wrap64 ((ji18) + 1)), (x6_3 ++ (x0_1.extract ((ji18) : Int).toNat ((wrap64 ((ji18) + 1)) : Int).toNat)), (by first | rfl | (simp; done) | (simp only [← hji18] <;> (first | rfl | simp)) | (simp [*]; done)), (by first | rfl | (simp; done) | (simp only [← hji18] <;> (first | rfl | simp)) | (simp [*]; done)), H', ⟨by have := HK1.out; have := HJ1.out; have := HK3.out; have := HJ7.out; omega⟩, ⟨ql_ HO_4.out⟩, ⟨qb_ HB.out⟩⟩
                   ·rw [if_neg c22] at H
                    exact absurd H (by simp)
                  ·rw [if_neg c21] at H
                   exact absurd H (by simp)
                 ·rw [if_neg c20] at H
                  exact absurd H (by simp)
                ·rw [if_neg c19] at H
                 exact absurd H (by simp)
               ·rw [if_neg c17] at H
                have c17b0 : decide ((wrap64 (x5_3 + 1)) < (x0_1.size : Int)) = false := decide_eq_false c17
                clear c17
                have H' := Aside0.mk H
                clear H
                have p15 : 0 ≤ (x5_3 : Int) := qd_
                have q15 : x5_3 < (x0_1.size : Int) := qd_
                have hx15 := bt_at x0_1 x5_3
                replace p15 := eq_true p15
                replace q15 := eq_true q15
                go_wp2
                repeat (go_quiet (fail); try go_wp2)
                go_roundg kj7
                case measure => have := HK1.out; have := HJ1.out; have := HK3.out; have := HJ7.out; omega
                case rel => exact ⟨(wrap64 ((wrap64 (x5_3 + 1)) + 1)), (x6_3), qr_, qr_, H', ⟨by have := HK1.out; have := HJ1.out; have := HK3.out; have := HJ7.out; omega⟩, ⟨ql_ HO_4.out⟩, ⟨qb_ HB.out⟩⟩
              ·rw [if_neg c16] at H
               have c16b0 : ((bt x0_1 x5_3) == 92) = false := beq_eq_false_iff_ne.mpr c16
               have c16b1 : ((bt x0_1 x5_3) != 92) = true := bne_iff_ne.mpr c16
               have c23b0 := eq_true (qd_ : 0 ≤ x5_3)
               by_cases c24 : x5_3 ≤ (wrap64 (x5_3 + 1))
               ·rw [if_pos c24] at H
                have c24b0 := eq_true c24
                have c24b1 : decide (x5_3 ≤ (wrap64 (x5_3 + 1))) = true := decide_eq_true c24
                by_cases c25 : (wrap64 (x5_3 + 1)) ≤ (x0_1.size : Int)
                ·rw [if_pos c25] at H
                 have c25b0 := eq_true c25
                 have c25b1 : decide ((wrap64 (x5_3 + 1)) ≤ (x0_1.size : Int)) = true := decide_eq_true c25
                 by_cases c26 : x6_3.size + (x0_1.extract (x5_3 : Int).toNat ((wrap64 (x5_3 + 1)) : Int).toNat).size ≤ 9223372036854775807
                 ·rw [if_pos c26] at H
                  have c26b0 := eq_true c26
                  have c26b1 : decide (x6_3.size + (x0_1.extract (x5_3 : Int).toNat ((wrap64 (x5_3 + 1)) : Int).toNat).size ≤ 9223372036854775807) = true := decide_eq_true c26
                  try have c26b2 : (9223372036854775807 < x6_3.size + (x0_1.extract (x5_3 : Int).toNat ((wrap64 (x5_3 + 1)) : Int).toNat).size) = False := eq_false (Nat.not_lt.2 c26)
                  (try (have c26h := c26; simp only [ByteArray.size_append, ByteArray.size_extract, Int.toNat_natCast, Nat.sub_zero, Nat.min_self, ByteArray.extract_zero_size] at c26h; have c26b7 := eq_false (Nat.not_lt.2 c26h); clear c26h))
                  try have c26b5 : (9223372036854775807 < x6_3.size + (((wrap64 (x5_3 + 1)) : Int).toNat - (x5_3 : Int).toNat)) = False := eq_false (Nat.not_lt.2 (by have h_ := c26; (try have e0_ : (wrap64 (x5_3 + 1)) ≤ (x0_1.size : Int) := qd_); simp only [ByteArray.size_append, ByteArray.size_extract] at h_ ⊢; omega))
                  have H' := Aside0.mk H
                  clear H
                  have p15 : 0 ≤ (x5_3 : Int) := qd_
                  have q15 : x5_3 < (x0_1.size : Int) := qd_
                  have hx15 := bt_at x0_1 x5_3
                  replace p15 := eq_true p15
                  replace q15 := eq_true q15
                  go_wp2
                  repeat (go_quiet (fail); try go_wp2)
                  go_roundg kj7
                  case measure => have := HK1.out; have := HJ1.out; have := HK3.out; have := HJ7.out; omega
                  case rel => exact ⟨(wrap64 (x5_3 + 1)), (x6_3 ++ (x0_1.extract (x5_3 : Int).toNat ((wrap64 (x5_3 + 1)) : Int).toNat)), qr_, qr_, H', ⟨by have := HK1.out; have := HJ1.out; have := HK3.out; have := HJ7.out; omega⟩, ⟨ql_ HO_4.out⟩, ⟨qb_ HB.out⟩⟩
                 ·rw [if_neg c26] at H
                  exact absurd H (by simp)
                ·rw [if_neg c25] at H
                 exact absurd H (by simp)
               ·rw [if_neg c24] at H
                exact absurd H (by simp)
             ·rw [if_neg c14] at H
              exact absurd H (by simp)
            ·rw [if_neg c13] at H
             exact absurd H (by simp)
           ·replace c12 := Bool.eq_false_iff.mpr c12
            subst c12
            have H1 : (if (wrap64 (x5_3 + 1)) > (x0_1.size : Int) then (some (([] : List ByteArray), false)) else ((letterboxref07_Quoted.f kj7 x6_3).bind fun t241 => (if 0 ≤ (wrap64 (x5_3 + 1)) then (if (wrap64 (x5_3 + 1)) ≤ (x0_1.size : Int) then (if t241.toList = (x0_1.extract 0 ((wrap64 (x5_3 + 1)) : Int).toNat).toList then (letterboxref15_names.j5 kj7 x0_1 x4_1 (wrap64 (x5_3 + 1)) x6_3) else (some (([] : List ByteArray), false))) else (none)) else (none)))) = some (r1, r2) := by rw [if_neg (show ¬ (false = true) by decide)] at H; exact H
            clear H
            have H := H1
            clear H1
            by_cases c27 : (wrap64 (x5_3 + 1)) > (x0_1.size : Int)
            ·rw [if_pos c27] at H
             have c27b0 : decide ((x0_1.size : Int) < (wrap64 (x5_3 + 1))) = true := decide_eq_true c27
             clear c27
             simp only [Option.some.injEq, Prod.mk.injEq] at H
             obtain ⟨rfl, rfl⟩ := H
             go_wp2
             repeat (go_quiet (fail); try go_wp2)
             go_ret2
             exact ⟨_, qw_, qn_, qb_ HB.out⟩
            ·rw [if_neg c27] at H
             have c27b0 : decide ((x0_1.size : Int) < (wrap64 (x5_3 + 1))) = false := decide_eq_false c27
             clear c27
             replace H := Option.bind_eq_some_iff.mp H
             obtain ⟨t241, A280, H⟩ := H
             replace H : (if 0 ≤ (wrap64 (x5_3 + 1)) then (if (wrap64 (x5_3 + 1)) ≤ (x0_1.size : Int) then (if t241.toList = (x0_1.extract 0 ((wrap64 (x5_3 + 1)) : Int).toNat).toList then (letterboxref15_names.j5 kj7 x0_1 x4_1 (wrap64 (x5_3 + 1)) x6_3) else (some (([] : List ByteArray), false))) else (none)) else (none)) = some (r1, r2) := H
             have A28 := Aside0.mk A280
             clear A280
             obtain ⟨ji29, hji29⟩ : ∃ j_ : Int, (wrap64 (x5_3 + 1)) = j_ := ⟨_, rfl⟩
             replace H : (if 0 ≤ (ji29) then (if (ji29) ≤ (x0_1.size : Int) then (if t241.toList = (x0_1.extract 0 ((ji29) : Int).toNat).toList then (letterboxref15_names.j5 kj7 x0_1 x4_1 ji29 x6_3) else (some (([] : List ByteArray), false))) else (none)) else (none)) = some (r1, r2) := by first | (rw [hji29] at H; exact H) | (simp only [hji29] at H ⊢; exact H)
             (try rw [hji29] at c27b0)
             (try rw [hji29] at A28)
             have hji29w : (IntKind.i64.wrap (x5_3 + 1)) = ji29 := (i64_w _).trans hji29
             by_cases c30 : 0 ≤ (ji29)
             ·rw [if_pos c30] at H
              have c30b0 := eq_true c30
              have c30b1 : decide (0 ≤ (ji29)) = true := decide_eq_true c30
              clear c30
              by_cases c31 : (ji29) ≤ (x0_1.size : Int)
              ·rw [if_pos c31] at H
               have c31b0 := eq_true c31
               have c31b1 : decide ((ji29) ≤ (x0_1.size : Int)) = true := decide_eq_true c31
               clear c31
               by_cases c32 : t241.toList = (x0_1.extract 0 ((ji29) : Int).toNat).toList
               ·rw [if_pos c32] at H
                have c32b0 : (t241.toList == (x0_1.extract 0 ((ji29) : Int).toNat).toList) = true := beq_iff_eq.mpr c32
                have c32b1 : (t241.toList != (x0_1.extract 0 ((ji29) : Int).toNat).toList) = false := bne_eq_false_iff_eq.mpr c32
                clear c32
                have H' := Aside0.mk H
                clear H
                go_wp2_with (first | (go_at_call 45; (with_reducible refine (letterboxref07_Quoted.calls kj7 x6_3 t241 _ A28.out).mono ?_); rintro e w' ⟨rfl, ⟨nd, rfl⟩⟩; (try first | exact ⟨rfl, _, World.drewN_drewN _ _ _⟩ | exact ⟨rfl, _, Eq.trans (World.drewN_drewN _ _ _) (congrArg (World.drewN _) (Nat.add_assoc _ _ _))⟩)))
                repeat (go_quiet (first | (go_at_call 45; (with_reducible refine (letterboxref07_Quoted.calls kj7 x6_3 t241 _ A28.out).mono ?_); rintro e w' ⟨rfl, ⟨nd, rfl⟩⟩; (try first | exact ⟨rfl, _, World.drewN_drewN _ _ _⟩ | exact ⟨rfl, _, Eq.trans (World.drewN_drewN _ _ _) (congrArg (World.drewN _) (Nat.add_assoc _ _ _))⟩))); try go_wp2_with (first | (go_at_call 45; (with_reducible refine (letterboxref07_Quoted.calls kj7 x6_3 t241 _ A28.out).mono ?_); rintro e w' ⟨rfl, ⟨nd, rfl⟩⟩; (try first | exact ⟨rfl, _, World.drewN_drewN _ _ _⟩ | exact ⟨rfl, _, Eq.trans (World.drewN_drewN _ _ _) (congrArg (World.drewN _) (Nat.add_assoc _ _ _))⟩))))
                go_meet
                case rel => exact ⟨_, (ji29), (x6_3), (by first | rfl | (simp; done) | (simp only [← hji29] <;> (first | rfl | simp)) | (simp [*]; done)), qr_, (by first | exact H' | (rw [hji29]; exact H') | (rw [hji18]; exact H')), ⟨by have := HK1.out; have := HJ1.out; have := HK3.out; have := HJ7.out; first | omega | exact Nat.le_refl _⟩, ⟨ql_ HO_4.out⟩, ⟨qb_ HB.out⟩⟩
               ·rw [if_neg c32] at H
                have c32b0 : (t241.toList == (x0_1.extract 0 ((ji29) : Int).toNat).toList) = false := beq_eq_false_iff_ne.mpr c32
                have c32b1 : (t241.toList != (x0_1.extract 0 ((ji29) : Int).toNat).toList) = true := bne_iff_ne.mpr c32
                simp only [Option.some.injEq, Prod.mk.injEq] at H
                obtain ⟨rfl, rfl⟩ := H
                go_wp2_with (first | (go_at_call 45; (with_reducible refine (letterboxref07_Quoted.calls kj7 x6_3 t241 _ A28.out).mono ?_); rintro e w' ⟨rfl, ⟨nd, rfl⟩⟩; (try first | exact ⟨rfl, _, World.drewN_drewN _ _ _⟩ | exact ⟨rfl, _, Eq.trans (World.drewN_drewN _ _ _) (congrArg (World.drewN _) (Nat.add_assoc _ _ _))⟩)))
                repeat (go_quiet (first | (go_at_call 45; (with_reducible refine (letterboxref07_Quoted.calls kj7 x6_3 t241 _ A28.out).mono ?_); rintro e w' ⟨rfl, ⟨nd, rfl⟩⟩; (try first | exact ⟨rfl, _, World.drewN_drewN _ _ _⟩ | exact ⟨rfl, _, Eq.trans (World.drewN_drewN _ _ _) (congrArg (World.drewN _) (Nat.add_assoc _ _ _))⟩))); try go_wp2_with (first | (go_at_call 45; (with_reducible refine (letterboxref07_Quoted.calls kj7 x6_3 t241 _ A28.out).mono ?_); rintro e w' ⟨rfl, ⟨nd, rfl⟩⟩; (try first | exact ⟨rfl, _, World.drewN_drewN _ _ _⟩ | exact ⟨rfl, _, Eq.trans (World.drewN_drewN _ _ _) (congrArg (World.drewN _) (Nat.add_assoc _ _ _))⟩))))
                go_ret2
                exact ⟨_, by first | rfl | (simp [errW_none, errW_some] <;> rfl) | (simp only [← hji29]; first | rfl | (simp [errW_none, errW_some] <;> rfl)) | (simp [*, errW_none, errW_some] <;> rfl), qn_, qb_ HB.out⟩
              ·rw [if_neg c31] at H
               exact absurd H (by simp)
             ·rw [if_neg c30] at H
              exact absurd H (by simp)
      ·replace c7 := Bool.eq_false_iff.mpr c7
       subst c7
       have H1 : (letterboxref15_names.l2 kj1 x0_1 x4_1 0) = some (r1, r2) := by rw [if_neg (show ¬ (false = true) by decide)] at H; exact H
       clear H
       have H := H1
       clear H1
       have H' := Aside0.mk H
       clear H
       go_wp2
       repeat (go_quiet (fail); try go_wp2)
       go_loopg [5] kj1 (fun kq v5 w' => ∃ (x5_3 : Int), v5 = .int .i64 x5_3 ∧ Aside0 (letterboxref15_names.l2 kq x0_1 x4_1 x5_3 = some (r1, r2)) ∧ Aside0 (kq ≤ kj1) ∧ Aside0 (Kd.R Kd.string 9 w' w.heap.size (fun _ => True) u4 x4_1) ∧ Aside0 (Below w.heap.size w w'))
       case atStart => exact ⟨(0), qr_, H', ⟨Nat.le_refl _⟩, ⟨ql_ HO_4.out⟩, ⟨qb_ HB.out⟩⟩
       case round =>
        clear H'
        obtain ⟨x5_3, rfl, HA, HK3, HO_4, HB⟩ := hrel
        cases gk with
        | zero => exact absurd HA.out (by simp [letterboxref15_names.l2])
        | succ k3 =>
         have H := HA.out
         clear HA
         simp only [letterboxref15_names.l2] at H
         by_cases c33 : x5_3 < (x0_1.size : Int)
         ·rw [if_pos c33] at H
          have c33b0 : decide (x5_3 < (x0_1.size : Int)) = true := decide_eq_true c33
          clear c33
          by_cases c34 : 0 ≤ x5_3
          ·rw [if_pos c34] at H
           have c34b0 : decide (0 ≤ x5_3) = true := decide_eq_true c34
           clear c34
           by_cases c36 : (bt x0_1 x5_3) = 32
           ·rw [if_pos c36] at H
            have c36b0 : ((bt x0_1 x5_3) == 32) = true := beq_iff_eq.mpr c36
            have c36b1 : ((bt x0_1 x5_3) != 32) = false := bne_eq_false_iff_eq.mpr c36
            clear c36
            have c37b0 := eq_true (qd_ : 0 ≤ x5_3)
            by_cases c38 : x5_3 ≤ (x0_1.size : Int)
            ·rw [if_pos c38] at H
             have c38b0 := eq_true c38
             have c38b1 : decide (x5_3 ≤ (x0_1.size : Int)) = true := decide_eq_true c38
             clear c38
             replace H := Option.bind_eq_some_iff.mp H
             obtain ⟨t242, A390, H⟩ := H
             replace H : (if t242.toList = (x0_1.extract 0 (x5_3 : Int).toNat).toList then (letterboxref15_names.j5 k3 x0_1 x4_1 x5_3 (x0_1.extract 0 (x5_3 : Int).toNat)) else (some (([] : List ByteArray), false))) = some (r1, r2) := H
             have A39 := Aside0.mk A390
             clear A390
             by_cases c40 : t242.toList = (x0_1.extract 0 (x5_3 : Int).toNat).toList
             ·rw [if_pos c40] at H
              have c40b0 : (t242.toList == (x0_1.extract 0 (x5_3 : Int).toNat).toList) = true := beq_iff_eq.mpr c40
              have c40b1 : (t242.toList != (x0_1.extract 0 (x5_3 : Int).toNat).toList) = false := bne_eq_false_iff_eq.mpr c40
              clear c40
              have H' := Aside0.mk H
              clear H
              have p35 : 0 ≤ (x5_3 : Int) := qd_
              have q35 : x5_3 < (x0_1.size : Int) := qd_
              have hx35 := bt_at x0_1 x5_3
              replace p35 := eq_true p35
              replace q35 := eq_true q35
              go_wp2_with (first | (go_at_call 35; (with_reducible refine (letterboxref15_name.calls k3 (x0_1.extract 0 (x5_3 : Int).toNat) t242 _ A39.out).mono ?_); rintro e w' ⟨rfl, ⟨nd, rfl⟩⟩; (try first | exact ⟨rfl, _, World.drewN_drewN _ _ _⟩ | exact ⟨rfl, _, Eq.trans (World.drewN_drewN _ _ _) (congrArg (World.drewN _) (Nat.add_assoc _ _ _))⟩)))
              repeat (go_quiet (first | (go_at_call 35; (with_reducible refine (letterboxref15_name.calls k3 (x0_1.extract 0 (x5_3 : Int).toNat) t242 _ A39.out).mono ?_); rintro e w' ⟨rfl, ⟨nd, rfl⟩⟩; (try first | exact ⟨rfl, _, World.drewN_drewN _ _ _⟩ | exact ⟨rfl, _, Eq.trans (World.drewN_drewN _ _ _) (congrArg (World.drewN _) (Nat.add_assoc _ _ _))⟩))); try go_wp2_with (first | (go_at_call 35; (with_reducible refine (letterboxref15_name.calls k3 (x0_1.extract 0 (x5_3 : Int).toNat) t242 _ A39.out).mono ?_); rintro e w' ⟨rfl, ⟨nd, rfl⟩⟩; (try first | exact ⟨rfl, _, World.drewN_drewN _ _ _⟩ | exact ⟨rfl, _, Eq.trans (World.drewN_drewN _ _ _) (congrArg (World.drewN _) (Nat.add_assoc _ _ _))⟩))))
              go_meet
              case rel => exact ⟨_, (x5_3), (x0_1.extract 0 (x5_3 : Int).toNat), qr_, qr_, (by first | exact H' | (rw [hji29]; exact H') | (rw [hji18]; exact H')), ⟨by have := HK1.out; have := HJ1.out; have := HK3.out; first | omega | exact Nat.le_refl _⟩, ⟨ql_ HO_4.out⟩, ⟨qb_ HB.out⟩⟩
             ·rw [if_neg c40] at H
              have c40b0 : (t242.toList == (x0_1.extract 0 (x5_3 : Int).toNat).toList) = false := beq_eq_false_iff_ne.mpr c40
              have c40b1 : (t242.toList != (x0_1.extract 0 (x5_3 : Int).toNat).toList) = true := bne_iff_ne.mpr c40
              simp only [Option.some.injEq, Prod.mk.injEq] at H
              obtain ⟨rfl, rfl⟩ := H
              have p35 : 0 ≤ (x5_3 : Int) := qd_
              have q35 : x5_3 < (x0_1.size : Int) := qd_
              have hx35 := bt_at x0_1 x5_3
              replace p35 := eq_true p35
              replace q35 := eq_true q35
              go_wp2_with (first | (go_at_call 35; (with_reducible refine (letterboxref15_name.calls k3 (x0_1.extract 0 (x5_3 : Int).toNat) t242 _ A39.out).mono ?_); rintro e w' ⟨rfl, ⟨nd, rfl⟩⟩; (try first | exact ⟨rfl, _, World.drewN_drewN _ _ _⟩ | exact ⟨rfl, _, Eq.trans (World.drewN_drewN _ _ _) (congrArg (World.drewN _) (Nat.add_assoc _ _ _))⟩)))
              repeat (go_quiet (first | (go_at_call 35; (with_reducible refine (letterboxref15_name.calls k3 (x0_1.extract 0 (x5_3 : Int).toNat) t242 _ A39.out).mono ?_); rintro e w' ⟨rfl, ⟨nd, rfl⟩⟩; (try first | exact ⟨rfl, _, World.drewN_drewN _ _ _⟩ | exact ⟨rfl, _, Eq.trans (World.drewN_drewN _ _ _) (congrArg (World.drewN _) (Nat.add_assoc _ _ _))⟩))); try go_wp2_with (first | (go_at_call 35; (with_reducible refine (letterboxref15_name.calls k3 (x0_1.extract 0 (x5_3 : Int).toNat) t242 _ A39.out).mono ?_); rintro e w' ⟨rfl, ⟨nd, rfl⟩⟩; (try first | exact ⟨rfl, _, World.drewN_drewN _ _ _⟩ | exact ⟨rfl, _, Eq.trans (World.drewN_drewN _ _ _) (congrArg (World.drewN _) (Nat.add_assoc _ _ _))⟩))))
              go_ret2
              exact ⟨_, qw_, qn_, qb_ HB.out⟩
            ·rw [if_neg c38] at H
             exact absurd H (by simp)
           ·rw [if_neg c36] at H
            have c36b0 : ((bt x0_1 x5_3) == 32) = false := beq_eq_false_iff_ne.mpr c36
            have c36b1 : ((bt x0_1 x5_3) != 32) = true := bne_iff_ne.mpr c36
            have H' := Aside0.mk H
            clear H
            have p35 : 0 ≤ (x5_3 : Int) := qd_
            have q35 : x5_3 < (x0_1.size : Int) := qd_
            have hx35 := bt_at x0_1 x5_3
            replace p35 := eq_true p35
            replace q35 := eq_true q35
            go_wp2
            repeat (go_quiet (fail); try go_wp2)
            go_roundg k3
            case measure => have := HK1.out; have := HJ1.out; have := HK3.out; omega
            case rel => exact ⟨(wrap64 (x5_3 + 1)), qr_, H', ⟨by have := HK1.out; have := HJ1.out; have := HK3.out; omega⟩, ⟨ql_ HO_4.out⟩, ⟨qb_ HB.out⟩⟩
          ·rw [if_neg c34] at H
           exact absurd H (by simp)
         ·rw [if_neg c33] at H
          have c33b0 : decide (x5_3 < (x0_1.size : Int)) = false := decide_eq_false c33
          clear c33
          by_cases c41 : 0 ≤ x5_3
          ·rw [if_pos c41] at H
           have c41b0 := eq_true c41
           have c41b1 : decide (0 ≤ x5_3) = true := decide_eq_true c41
           clear c41
           by_cases c42 : x5_3 ≤ (x0_1.size : Int)
           ·rw [if_pos c42] at H
            have c42b0 := eq_true c42
            have c42b1 : decide (x5_3 ≤ (x0_1.size : Int)) = true := decide_eq_true c42
            clear c42
            replace H := Option.bind_eq_some_iff.mp H
            obtain ⟨t243, A430, H⟩ := H
            replace H : (if t243.toList = (x0_1.extract 0 (x5_3 : Int).toNat).toList then (letterboxref15_names.j5 k3 x0_1 x4_1 x5_3 (x0_1.extract 0 (x5_3 : Int).toNat)) else (some (([] : List ByteArray), false))) = some (r1, r2) := H
            have A43 := Aside0.mk A430
            clear A430
            by_cases c44 : t243.toList = (x0_1.extract 0 (x5_3 : Int).toNat).toList
            ·rw [if_pos c44] at H
             have c44b0 : (t243.toList == (x0_1.extract 0 (x5_3 : Int).toNat).toList) = true := beq_iff_eq.mpr c44
             have c44b1 : (t243.toList != (x0_1.extract 0 (x5_3 : Int).toNat).toList) = false := bne_eq_false_iff_eq.mpr c44
             clear c44
             have H' := Aside0.mk H
             clear H
             go_wp2_with (first | (go_at_call 35; (with_reducible refine (letterboxref15_name.calls k3 (x0_1.extract 0 (x5_3 : Int).toNat) t243 _ A43.out).mono ?_); rintro e w' ⟨rfl, ⟨nd, rfl⟩⟩; (try first | exact ⟨rfl, _, World.drewN_drewN _ _ _⟩ | exact ⟨rfl, _, Eq.trans (World.drewN_drewN _ _ _) (congrArg (World.drewN _) (Nat.add_assoc _ _ _))⟩)))
             repeat (go_quiet (first | (go_at_call 35; (with_reducible refine (letterboxref15_name.calls k3 (x0_1.extract 0 (x5_3 : Int).toNat) t243 _ A43.out).mono ?_); rintro e w' ⟨rfl, ⟨nd, rfl⟩⟩; (try first | exact ⟨rfl, _, World.drewN_drewN _ _ _⟩ | exact ⟨rfl, _, Eq.trans (World.drewN_drewN _ _ _) (congrArg (World.drewN _) (Nat.add_assoc _ _ _))⟩))); try go_wp2_with (first | (go_at_call 35; (with_reducible refine (letterboxref15_name.calls k3 (x0_1.extract 0 (x5_3 : Int).toNat) t243 _ A43.out).mono ?_); rintro e w' ⟨rfl, ⟨nd, rfl⟩⟩; (try first | exact ⟨rfl, _, World.drewN_drewN _ _ _⟩ | exact ⟨rfl, _, Eq.trans (World.drewN_drewN _ _ _) (congrArg (World.drewN _) (Nat.add_assoc _ _ _))⟩))))
             go_meet
             case rel => exact ⟨_, (x5_3), (x0_1.extract 0 (x5_3 : Int).toNat), qr_, qr_, (by first | exact H' | (rw [hji29]; exact H') | (rw [hji18]; exact H')), ⟨by have := HK1.out; have := HJ1.out; have := HK3.out; first | omega | exact Nat.le_refl _⟩, ⟨ql_ HO_4.out⟩, ⟨qb_ HB.out⟩⟩
            ·rw [if_neg c44] at H
             have c44b0 : (t243.toList == (x0_1.extract 0 (x5_3 : Int).toNat).toList) = false := beq_eq_false_iff_ne.mpr c44
             have c44b1 : (t243.toList != (x0_1.extract 0 (x5_3 : Int).toNat).toList) = true := bne_iff_ne.mpr c44
             simp only [Option.some.injEq, Prod.mk.injEq] at H
             obtain ⟨rfl, rfl⟩ := H
             go_wp2_with (first | (go_at_call 35; (with_reducible refine (letterboxref15_name.calls k3 (x0_1.extract 0 (x5_3 : Int).toNat) t243 _ A43.out).mono ?_); rintro e w' ⟨rfl, ⟨nd, rfl⟩⟩; (try first | exact ⟨rfl, _, World.drewN_drewN _ _ _⟩ | exact ⟨rfl, _, Eq.trans (World.drewN_drewN _ _ _) (congrArg (World.drewN _) (Nat.add_assoc _ _ _))⟩)))
             repeat (go_quiet (first | (go_at_call 35; (with_reducible refine (letterboxref15_name.calls k3 (x0_1.extract 0 (x5_3 : Int).toNat) t243 _ A43.out).mono ?_); rintro e w' ⟨rfl, ⟨nd, rfl⟩⟩; (try first | exact ⟨rfl, _, World.drewN_drewN _ _ _⟩ | exact ⟨rfl, _, Eq.trans (World.drewN_drewN _ _ _) (congrArg (World.drewN _) (Nat.add_assoc _ _ _))⟩))); try go_wp2_with (first | (go_at_call 35; (with_reducible refine (letterboxref15_name.calls k3 (x0_1.extract 0 (x5_3 : Int).toNat) t243 _ A43.out).mono ?_); rintro e w' ⟨rfl, ⟨nd, rfl⟩⟩; (try first | exact ⟨rfl, _, World.drewN_drewN _ _ _⟩ | exact ⟨rfl, _, Eq.trans (World.drewN_drewN _ _ _) (congrArg (World.drewN _) (Nat.add_assoc _ _ _))⟩))))
             go_ret2
             exact ⟨_, qw_, qn_, qb_ HB.out⟩
           ·rw [if_neg c42] at H
            exact absurd H (by simp)
          ·rw [if_neg c41] at H
           exact absurd H (by simp)
     case rest =>
      clear HC6
      obtain ⟨kq, x5_5, x6_5, rfl, rfl, HA, HJ5, HO_4, HB⟩ := hcut
      cases kq with
      | zero => exact absurd HA.out (by simp [letterboxref15_names.j5])
      | succ kj5 =>
       have H := HA.out
       clear HA
       simp only [letterboxref15_names.j5] at H
       by_cases c45 : x4_1.length < 8796093022208
       ·rw [if_pos c45] at H
        have LMc45 := Aside0.mk c45
        clear c45
        obtain ⟨y244, hy244⟩ : ∃ y_ : List ByteArray, y_ = (x4_1 ++ [x6_5]) := ⟨_, rfl⟩
        replace H : (if x5_5 = (x0_1.size : Int) then (some (y244, true)) else (if 0 ≤ x5_5 then (if x5_5 < (x0_1.size : Int) then (if (bt x0_1 x5_5) = 32 then (if 0 ≤ (wrap64 (x5_5 + 1)) then (if (wrap64 (x5_5 + 1)) ≤ (x0_1.size : Int) then (letterboxref15_names.l0 kj5 (x0_1.extract ((wrap64 (x5_5 + 1)) : Int).toNat x0_1.size) y244) else (none)) else (none)) else (some (([] : List ByteArray), false))) else (none)) else (none))) = some (r1, r2) := by first | (rw [hy244]; with_reducible exact H) | (have H2_ := (Option.bind_some _ _).symm.trans H; rw [hy244]; with_reducible exact H2_) | (have H2_ := (Option.bind_some _ _).symm.trans H; with_reducible exact H2_) | with_reducible exact H | (rw [hy244]; exact H) | exact H
        have Ny244 := Aside0.mk hy244
        clear hy244
        by_cases c46 : x5_5 = (x0_1.size : Int)
        ·rw [if_pos c46] at H
         have c46b0 : (x5_5 == (x0_1.size : Int)) = true := beq_iff_eq.mpr c46
         have c46b1 : (x5_5 != (x0_1.size : Int)) = false := bne_eq_false_iff_eq.mpr c46
         clear c46
         simp only [Option.some.injEq, Prod.mk.injEq] at H
         obtain ⟨rfl, rfl⟩ := H
         go_wp2_with (first | ((with_reducible refine gate_builtin (b := .append) (xs := #[.tmp 76, .tmp 78]) rfl ?_); at_builtin; refine Kd.R_append Kd.string (w0 := w) w.heap.size rfl (.tmp 76) (.tmp 78) 24 9 (.string ⟨#[]⟩) 16 rfl Tryd.underlying24 info9 rfl (by decide) (by omega) u4 x4_1 x6_5 [.string x6_5] (fun _ => True) (fun _ => False) rfl rfl ?aP (fun _ hk => hk.elim) ?aF ?aO ?aB ?aS ?aL ?_; (case aP => exact rfl); (case aB => exact (qb_ HB.out)); (case aF => exact (fun _ _ => trivial)); (case aO => exact (ql_ HO_4.out)); (case aS => exact (below_size (qb_ HB.out))); (case aL => have := LMc45.out; omega); intro v245 w47 ho hb hg hat; rw [← Ny244.out] at ho; have n0_ := Aside0.mk (hb); have n1_ := Aside0.mk (ho); clear HB; clear HO_4; have HB := n0_; have HO246 := n1_; clear n0_ n1_; clear ho hb hg hat))
         repeat (go_quiet (first | ((with_reducible refine gate_builtin (b := .append) (xs := #[.tmp 76, .tmp 78]) rfl ?_); at_builtin; refine Kd.R_append Kd.string (w0 := w) w.heap.size rfl (.tmp 76) (.tmp 78) 24 9 (.string ⟨#[]⟩) 16 rfl Tryd.underlying24 info9 rfl (by decide) (by omega) u4 x4_1 x6_5 [.string x6_5] (fun _ => True) (fun _ => False) rfl rfl ?aP (fun _ hk => hk.elim) ?aF ?aO ?aB ?aS ?aL ?_; (case aP => exact rfl); (case aB => exact (qb_ HB.out)); (case aF => exact (fun _ _ => trivial)); (case aO => exact (ql_ HO_4.out)); (case aS => exact (below_size (qb_ HB.out))); (case aL => have := LMc45.out; omega); intro v245 w47 ho hb hg hat; rw [← Ny244.out] at ho; have n0_ := Aside0.mk (hb); have n1_ := Aside0.mk (ho); clear HB; clear HO_4; have HB := n0_; have HO246 := n1_; clear n0_ n1_; clear ho hb hg hat)); try go_wp2_with (first | ((with_reducible refine gate_builtin (b := .append) (xs := #[.tmp 76, .tmp 78]) rfl ?_); at_builtin; refine Kd.R_append Kd.string (w0 := w) w.heap.size rfl (.tmp 76) (.tmp 78) 24 9 (.string ⟨#[]⟩) 16 rfl Tryd.underlying24 info9 rfl (by decide) (by omega) u4 x4_1 x6_5 [.string x6_5] (fun _ => True) (fun _ => False) rfl rfl ?aP (fun _ hk => hk.elim) ?aF ?aO ?aB ?aS ?aL ?_; (case aP => exact rfl); (case aB => exact (qb_ HB.out)); (case aF => exact (fun _ _ => trivial)); (case aO => exact (ql_ HO_4.out)); (case aS => exact (below_size (qb_ HB.out))); (case aL => have := LMc45.out; omega); intro v245 w47 ho hb hg hat; rw [← Ny244.out] at ho; have n0_ := Aside0.mk (hb); have n1_ := Aside0.mk (ho); clear HB; clear HO_4; have HB := n0_; have HO246 := n1_; clear n0_ n1_; clear ho hb hg hat)))
         go_ret2
         exact ⟨_, qw_, ql_ HO246.out, qb_ HB.out⟩
        ·rw [if_neg c46] at H
         have c46b0 : (x5_5 == (x0_1.size : Int)) = false := beq_eq_false_iff_ne.mpr c46
         have c46b1 : (x5_5 != (x0_1.size : Int)) = true := bne_iff_ne.mpr c46
         by_cases c48 : 0 ≤ x5_5
         ·rw [if_pos c48] at H
          have c48b0 : decide (0 ≤ x5_5) = true := decide_eq_true c48
          clear c48
          by_cases c49 : x5_5 < (x0_1.size : Int)
          ·rw [if_pos c49] at H
           have c49b0 : decide (x5_5 < (x0_1.size : Int)) = true := decide_eq_true c49
           clear c49
           by_cases c51 : (bt x0_1 x5_5) = 32
           ·rw [if_pos c51] at H
            have c51b0 : ((bt x0_1 x5_5) == 32) = true := beq_iff_eq.mpr c51
            have c51b1 : ((bt x0_1 x5_5) != 32) = false := bne_eq_false_iff_eq.mpr c51
            clear c51
            obtain ⟨ji52, hji52⟩ : ∃ j_ : Int, (wrap64 (x5_5 + 1)) = j_ := ⟨_, rfl⟩
            replace H : (if 0 ≤ (ji52) then (if (ji52) ≤ (x0_1.size : Int) then (letterboxref15_names.l0 kj5 (x0_1.extract ((ji52) : Int).toNat x0_1.size) y244) else (none)) else (none)) = some (r1, r2) := by first | (rw [hji52] at H; exact H) | (simp only [hji52] at H ⊢; exact H)
            have hji52w : (IntKind.i64.wrap (x5_5 + 1)) = ji52 := (i64_w _).trans hji52
            by_cases c53 : 0 ≤ (ji52)
            ·rw [if_pos c53] at H
             have c53b0 := eq_true c53
             have c53b1 : decide (0 ≤ (ji52)) = true := decide_eq_true c53
             clear c53
             by_cases c54 : (ji52) ≤ (x0_1.size : Int)
             ·rw [if_pos c54] at H
              have c54b0 := eq_true c54
              have c54b1 : decide ((ji52) ≤ (x0_1.size : Int)) = true := decide_eq_true c54
              clear c54
              have H' := Aside0.mk H
              clear H
              go_wp2_with (first | ((with_reducible refine gate_builtin (b := .append) (xs := #[.tmp 76, .tmp 78]) rfl ?_); at_builtin; refine Kd.R_append Kd.string (w0 := w) w.heap.size rfl (.tmp 76) (.tmp 78) 24 9 (.string ⟨#[]⟩) 16 rfl Tryd.underlying24 info9 rfl (by decide) (by omega) u4 x4_1 x6_5 [.string x6_5] (fun _ => True) (fun _ => False) rfl rfl ?aP (fun _ hk => hk.elim) ?aF ?aO ?aB ?aS ?aL ?_; (case aP => exact rfl); (case aB => exact (qb_ HB.out)); (case aF => exact (fun _ _ => trivial)); (case aO => exact (ql_ HO_4.out)); (case aS => exact (below_size (qb_ HB.out))); (case aL => have := LMc45.out; omega); intro v245 w55 ho hb hg hat; rw [← Ny244.out] at ho; have n0_ := Aside0.mk (hb); have n1_ := Aside0.mk (ho); clear HB; clear HO_4; have HB := n0_; have HO246 := n1_; clear n0_ n1_; clear ho hb hg hat; have p50 : 0 ≤ (x5_5 : Int) := qd_; have q50 : x5_5 < (x0_1.size : Int) := qd_; have hx50 := bt_at x0_1 x5_5; replace p50 := eq_true p50; replace q50 := eq_true q50))
              repeat (go_quiet (first | ((with_reducible refine gate_builtin (b := .append) (xs := #[.tmp 76, .tmp 78]) rfl ?_); at_builtin; refine Kd.R_append Kd.string (w0 := w) w.heap.size rfl (.tmp 76) (.tmp 78) 24 9 (.string ⟨#[]⟩) 16 rfl Tryd.underlying24 info9 rfl (by decide) (by omega) u4 x4_1 x6_5 [.string x6_5] (fun _ => True) (fun _ => False) rfl rfl ?aP (fun _ hk => hk.elim) ?aF ?aO ?aB ?aS ?aL ?_; (case aP => exact rfl); (case aB => exact (qb_ HB.out)); (case aF => exact (fun _ _ => trivial)); (case aO => exact (ql_ HO_4.out)); (case aS => exact (below_size (qb_ HB.out))); (case aL => have := LMc45.out; omega); intro v245 w55 ho hb hg hat; rw [← Ny244.out] at ho; have n0_ := Aside0.mk (hb); have n1_ := Aside0.mk (ho); clear HB; clear HO_4; have HB := n0_; have HO246 := n1_; clear n0_ n1_; clear ho hb hg hat; have p50 : 0 ≤ (x5_5 : Int) := qd_; have q50 : x5_5 < (x0_1.size : Int) := qd_; have hx50 := bt_at x0_1 x5_5; replace p50 := eq_true p50; replace q50 := eq_true q50)); try go_wp2_with (first | ((with_reducible refine gate_builtin (b := .append) (xs := #[.tmp 76, .tmp 78]) rfl ?_); at_builtin; refine Kd.R_append Kd.string (w0 := w) w.heap.size rfl (.tmp 76) (.tmp 78) 24 9 (.string ⟨#[]⟩) 16 rfl Tryd.underlying24 info9 rfl (by decide) (by omega) u4 x4_1 x6_5 [.string x6_5] (fun _ => True) (fun _ => False) rfl rfl ?aP (fun _ hk => hk.elim) ?aF ?aO ?aB ?aS ?aL ?_; (case aP => exact rfl); (case aB => exact (qb_ HB.out)); (case aF => exact (fun _ _ => trivial)); (case aO => exact (ql_ HO_4.out)); (case aS => exact (below_size (qb_ HB.out))); (case aL => have := LMc45.out; omega); intro v245 w55 ho hb hg hat; rw [← Ny244.out] at ho; have n0_ := Aside0.mk (hb); have n1_ := Aside0.mk (ho); clear HB; clear HO_4; have HB := n0_; have HO246 := n1_; clear n0_ n1_; clear ho hb hg hat; have p50 : 0 ≤ (x5_5 : Int) := qd_; have q50 : x5_5 < (x0_1.size : Int) := qd_; have hx50 := bt_at x0_1 x5_5; replace p50 := eq_true p50; replace q50 := eq_true q50)))
              go_roundg kj5
              case measure => have := HK1.out; have := HJ1.out; have := HJ5.out; omega
              case rel => exact ⟨(x0_1.extract ((ji52) : Int).toNat x0_1.size), (y244), (by first | rfl | (simp; done) | (simp only [← hji52] <;> (first | rfl | simp)) | (simp [*]; done)), H', ⟨by have := HK1.out; have := HJ1.out; have := HJ5.out; omega⟩, ⟨ql_ HO246.out⟩, ⟨qb_ HB.out⟩⟩
             ·rw [if_neg c54] at H
              exact absurd H (by simp)
            ·rw [if_neg c53] at H
             exact absurd H (by simp)
           ·rw [if_neg c51] at H
            have c51b0 : ((bt x0_1 x5_5) == 32) = false := beq_eq_false_iff_ne.mpr c51
            have c51b1 : ((bt x0_1 x5_5) != 32) = true := bne_iff_ne.mpr c51
            simp only [Option.some.injEq, Prod.mk.injEq] at H
            obtain ⟨rfl, rfl⟩ := H
            go_wp2_with (first | ((with_reducible refine gate_builtin (b := .append) (xs := #[.tmp 76, .tmp 78]) rfl ?_); at_builtin; refine Kd.R_append Kd.string (w0 := w) w.heap.size rfl (.tmp 76) (.tmp 78) 24 9 (.string ⟨#[]⟩) 16 rfl Tryd.underlying24 info9 rfl (by decide) (by omega) u4 x4_1 x6_5 [.string x6_5] (fun _ => True) (fun _ => False) rfl rfl ?aP (fun _ hk => hk.elim) ?aF ?aO ?aB ?aS ?aL ?_; (case aP => exact rfl); (case aB => exact (qb_ HB.out)); (case aF => exact (fun _ _ => trivial)); (case aO => exact (ql_ HO_4.out)); (case aS => exact (below_size (qb_ HB.out))); (case aL => have := LMc45.out; omega); intro v245 w56 ho hb hg hat; rw [← Ny244.out] at ho; have n0_ := Aside0.mk (hb); have n1_ := Aside0.mk (ho); clear HB; clear HO_4; have HB := n0_; have HO246 := n1_; clear n0_ n1_; clear ho hb hg hat; have p50 : 0 ≤ (x5_5 : Int) := qd_; have q50 : x5_5 < (x0_1.size : Int) := qd_; have hx50 := bt_at x0_1 x5_5; replace p50 := eq_true p50; replace q50 := eq_true q50))
            repeat (go_quiet (first | ((with_reducible refine gate_builtin (b := .append) (xs := #[.tmp 76, .tmp 78]) rfl ?_); at_builtin; refine Kd.R_append Kd.string (w0 := w) w.heap.size rfl (.tmp 76) (.tmp 78) 24 9 (.string ⟨#[]⟩) 16 rfl Tryd.underlying24 info9 rfl (by decide) (by omega) u4 x4_1 x6_5 [.string x6_5] (fun _ => True) (fun _ => False) rfl rfl ?aP (fun _ hk => hk.elim) ?aF ?aO ?aB ?aS ?aL ?_; (case aP => exact rfl); (case aB => exact (qb_ HB.out)); (case aF => exact (fun _ _ => trivial)); (case aO => exact (ql_ HO_4.out)); (case aS => exact (below_size (qb_ HB.out))); (case aL => have := LMc45.out; omega); intro v245 w56 ho hb hg hat; rw [← Ny244.out] at ho; have n0_ := Aside0.mk (hb); have n1_ := Aside0.mk (ho); clear HB; clear HO_4; have HB := n0_; have HO246 := n1_; clear n0_ n1_; clear ho hb hg hat; have p50 : 0 ≤ (x5_5 : Int) := qd_; have q50 : x5_5 < (x0_1.size : Int) := qd_; have hx50 := bt_at x0_1 x5_5; replace p50 := eq_true p50; replace q50 := eq_true q50)); try go_wp2_with (first | ((with_reducible refine gate_builtin (b := .append) (xs := #[.tmp 76, .tmp 78]) rfl ?_); at_builtin; refine Kd.R_append Kd.string (w0 := w) w.heap.size rfl (.tmp 76) (.tmp 78) 24 9 (.string ⟨#[]⟩) 16 rfl Tryd.underlying24 info9 rfl (by decide) (by omega) u4 x4_1 x6_5 [.string x6_5] (fun _ => True) (fun _ => False) rfl rfl ?aP (fun _ hk => hk.elim) ?aF ?aO ?aB ?aS ?aL ?_; (case aP => exact rfl); (case aB => exact (qb_ HB.out)); (case aF => exact (fun _ _ => trivial)); (case aO => exact (ql_ HO_4.out)); (case aS => exact (below_size (qb_ HB.out))); (case aL => have := LMc45.out; omega); intro v245 w56 ho hb hg hat; rw [← Ny244.out] at ho; have n0_ := Aside0.mk (hb); have n1_ := Aside0.mk (ho); clear HB; clear HO_4; have HB := n0_; have HO246 := n1_; clear n0_ n1_; clear ho hb hg hat; have p50 : 0 ≤ (x5_5 : Int) := qd_; have q50 : x5_5 < (x0_1.size : Int) := qd_; have hx50 := bt_at x0_1 x5_5; replace p50 := eq_true p50; replace q50 := eq_true q50)))
            go_ret2
            exact ⟨_, qw_, qn_, qb_ HB.out⟩
          ·rw [if_neg c49] at H
           exact absurd H (by simp)
         ·rw [if_neg c48] at H
          exact absurd H (by simp)
       ·rw [if_neg c45] at H
        exact absurd H (by simp)

end Go.Proofs.YtbjbagocnnffaaaDoor.P
