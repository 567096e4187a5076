-- Written by a program of this session (wip/tools/mk.sh) for this claim: it runs the kit's print with contracts of our own. Lean checks it.
import Derived.Test.YtmbiggcapakjjaaDoorPx0
import Derived.Test.YtmbiggcapakjjaaDoorWRepsOne
import Derived.Test.YtmbiggcapakjjaaDoorZSplit
import Derived.Test.YtmbiggcapakjjaaDoorZSplit
import Derived.Test.YtmbiggcapakjjaaDoorPx10
import Derived.Test.YtmbiggcapakjjaaDoorPx11
namespace Go.Proofs.YtmbiggcapakjjaaDoor.P
open Go.RowKit Go.Proofs.YtmbiggcapakjjaaDoorW.PrintWords Go.Proofs.YtmbiggcapakjjaaDoorW.PrintLast Go.Proofs.YtmbiggcapakjjaaDoorW.PrintMore
attribute [-simp] Int.tmod_tmod_of_dvd
attribute [local go_sem] max2_int min2_int max_two min_two max_three min_three max_four min_four   -- for this text's walks alone
set_option linter.unusedVariables false
set_option linter.unusedSimpArgs false

/-! ### letterboxref11_zone: function 30 -/
mutual
def letterboxref11_zone.j0 : Nat → ByteArray → Bool → Option (Int × Bool)
 | 0, _, _ => none
 | k + 1, x0, x16 => if x16 = true then ((letterboxref11_offset.f k x0).bind fun bt254 => (some (bt254.1, bt254.2))) else ((letterboxref01_Fold.f k x0).bind fun t256 => (letterboxref11_zone.l0 k t256 0))
def letterboxref11_zone.l0 : Nat → ByteArray → Int → Option (Int × Bool)
 | 0, _, _ => none
 | k + 1, x4, x5 => if x5 < (x4.size : Int) then (if 0 ≤ x5 then (if (bt x4 x5) < 97 then (some (0, false)) else (if (bt x4 x5) > 122 then (some (0, false)) else (letterboxref11_zone.l0 k x4 (wrap64 (x5 + 1))))) else (none)) else (letterboxref11_zone.l1 k x4 (([(⟨#[101, 100, 116]⟩ : ByteArray), (⟨#[101, 115, 116]⟩ : ByteArray), (⟨#[99, 100, 116]⟩ : ByteArray), (⟨#[99, 115, 116]⟩ : ByteArray), (⟨#[109, 100, 116]⟩ : ByteArray), (⟨#[109, 115, 116]⟩ : ByteArray), (⟨#[112, 100, 116]⟩ : ByteArray), (⟨#[112, 115, 116]⟩ : ByteArray)] : List ByteArray)) (([(-4), (-5), (-5), (-6), (-6), (-7), (-7), (-8)] : List Int)) 0)
def letterboxref11_zone.l1 : Nat → ByteArray → List ByteArray → List Int → Int → Option (Int × Bool)
 | 0, _, _, _, _ => none
 | k + 1, x4, x6, x7, x8 => if x8 < (x6.length : Int) then (if 0 ≤ x8 then (if (rdOf ByteArray.empty x6 x8).toList = x4.toList then (if x8 < (x7.length : Int) then (some (wrap64 (60 * (rd x7 x8)), true)) else (none)) else (letterboxref11_zone.l1 k x4 x6 x7 (wrap64 (x8 + 1)))) else (none)) else (some (0, true))
end
def letterboxref11_zone.f (k : Nat) (a0 : ByteArray) : Option (Int × Bool) := if 0 < (a0.size : Int) then (if (bt a0 0) = 43 then (letterboxref11_zone.j0 k a0 true) else (letterboxref11_zone.j0 k a0 ((bt a0 0) == 45))) else (none)
theorem letterboxref11_zone.mono_l : ∀ k, (∀ y0 y1, LeO (letterboxref11_zone.j0 k y0 y1) (letterboxref11_zone.j0 (k + 1) y0 y1)) ∧ (∀ y0 y1, LeO (letterboxref11_zone.l0 k y0 y1) (letterboxref11_zone.l0 (k + 1) y0 y1)) ∧ (∀ y0 y1 y2 y3, LeO (letterboxref11_zone.l1 k y0 y1 y2 y3) (letterboxref11_zone.l1 (k + 1) y0 y1 y2 y3))
 | 0 => ⟨fun _ _ r h => by simp [letterboxref11_zone.j0] at h, fun _ _ r h => by simp [letterboxref11_zone.l0] at h, fun _ _ _ _ r h => by simp [letterboxref11_zone.l1] at h⟩
 | k + 1 => by
  obtain ⟨ih0, ih1, ih2⟩ := letterboxref11_zone.mono_l k
  refine ⟨?_, ?_, ?_⟩
  ·intro y0 y1
   unfold letterboxref11_zone.j0
   repeat' first
   | (with_reducible exact ih0 _ _)
   | (with_reducible exact ih1 _ _)
   | (with_reducible exact ih2 _ _ _ _)
   | (with_reducible exact letterboxref01_Fold.mono _ _)
   | (with_reducible exact letterboxref11_offset.mono _ _)
   | (with_reducible exact LeO.refl _)
   | (with_reducible exact LeO.none _)
   | (with_reducible refine LeO.ite ?_ ?_)
   | (with_reducible refine LeO.bind ?_ (fun _ => ?_))
   | exact ih0 _ _
   | exact ih1 _ _
   | exact ih2 _ _ _ _
   | exact letterboxref01_Fold.mono _ _
   | exact letterboxref11_offset.mono _ _
   | exact LeO.none _
   | refine LeO.ite ?_ ?_
   | refine LeO.bind ?_ (fun _ => ?_)
  ·intro y0 y1
   unfold letterboxref11_zone.l0
   repeat' first
   | (with_reducible exact ih0 _ _)
   | (with_reducible exact ih1 _ _)
   | (with_reducible exact ih2 _ _ _ _)
   | (with_reducible exact letterboxref01_Fold.mono _ _)
   | (with_reducible exact letterboxref11_offset.mono _ _)
   | (with_reducible exact LeO.refl _)
   | (with_reducible exact LeO.none _)
   | (with_reducible refine LeO.ite ?_ ?_)
   | (with_reducible refine LeO.bind ?_ (fun _ => ?_))
   | exact ih0 _ _
   | exact ih1 _ _
   | exact ih2 _ _ _ _
   | exact letterboxref01_Fold.mono _ _
   | exact letterboxref11_offset.mono _ _
   | exact LeO.none _
   | refine LeO.ite ?_ ?_
   | refine LeO.bind ?_ (fun _ => ?_)
  ·intro y0 y1 y2 y3
   unfold letterboxref11_zone.l1
   repeat' first
   | (with_reducible exact ih0 _ _)
   | (with_reducible exact ih1 _ _)
   | (with_reducible exact ih2 _ _ _ _)
   | (with_reducible exact letterboxref01_Fold.mono _ _)
   | (with_reducible exact letterboxref11_offset.mono _ _)
   | (with_reducible exact LeO.refl _)
   | (with_reducible exact LeO.none _)
   | (with_reducible refine LeO.ite ?_ ?_)
   | (with_reducible refine LeO.bind ?_ (fun _ => ?_))
   | exact ih0 _ _
   | exact ih1 _ _
   | exact ih2 _ _ _ _
   | exact letterboxref01_Fold.mono _ _
   | exact letterboxref11_offset.mono _ _
   | exact LeO.none _
   | refine LeO.ite ?_ ?_
   | refine LeO.bind ?_ (fun _ => ?_)
theorem letterboxref11_zone.mono : ∀ a0 k, LeO (letterboxref11_zone.f k a0) (letterboxref11_zone.f (k + 1) a0) := by
 intro a0 k
 obtain ⟨ih0, ih1, ih2⟩ := letterboxref11_zone.mono_l k
 unfold letterboxref11_zone.f
 repeat' first
   | (with_reducible exact ih0 _ _)
   | (with_reducible exact ih1 _ _)
   | (with_reducible exact ih2 _ _ _ _)
   | (with_reducible exact letterboxref01_Fold.mono _ _)
   | (with_reducible exact letterboxref11_offset.mono _ _)
   | (with_reducible exact LeO.refl _)
   | (with_reducible exact LeO.none _)
   | (with_reducible refine LeO.ite ?_ ?_)
   | (with_reducible refine LeO.bind ?_ (fun _ => ?_))
   | exact ih0 _ _
   | exact ih1 _ _
   | exact ih2 _ _ _ _
   | exact letterboxref01_Fold.mono _ _
   | exact letterboxref11_offset.mono _ _
   | exact LeO.none _
   | refine LeO.ite ?_ ?_
   | refine LeO.bind ?_ (fun _ => ?_)
set_option maxHeartbeats 8000000 in
set_option maxRecDepth 100000 in
theorem letterboxref11_zone.calls (k : Nat) (a0 : ByteArray) (r1 : Int) (r2 : Bool) (w : World) (h : letterboxref11_zone.f k a0 = some (r1, r2)) :
  Calls Tryd.prog 30 #[.string a0] w fun e w' => e = .returned (.tuple #[.int .i64 r1, .bool r2]) ∧ Below w.heap.size w w' := by
 have HB := Aside0.mk (Below.refl w.heap.size w)
 have H : (if 0 < (a0.size : Int) then (if (bt a0 0) = 43 then (letterboxref11_zone.j0 k a0 true) else (letterboxref11_zone.j0 k a0 ((bt a0 0) == 45))) else (none)) = some (r1, r2) := h
 clear h
 have HC2 := Aside0.mk H
 clear H
 go_enter Tryd.func30, Tryd.ntmps30
 go_upto_region 1 with (fail)
 go_cut [16] (fun v16 wc => ∃ (kq : Nat) (x16_1 : Bool), v16 = .bool x16_1 ∧ Aside0 (letterboxref11_zone.j0 kq a0 x16_1 = some (r1, r2)) ∧ Aside0 (kq ≤ k) ∧ Aside0 (Below w.heap.size w wc))
 case first =>
  have H := HC2.out
  clear HC2
  by_cases c3 : 0 < (a0.size : Int)
  ·rw [if_pos c3] at H
   have c3b0 : decide (0 < (a0.size : Int)) = true := decide_eq_true c3
   have c3b1 : decide (0 < a0.size) = true := decide_eq_true (by omega)
   clear c3
   (first | rw [c3b0] | (simp only [i64_w, i32_w]; rw [c3b0]) | skip)
   by_cases c5 : (bt a0 0) = 43
   ·rw [if_pos c5] at H
    have c5b0 : ((bt a0 0) == 43) = true := beq_iff_eq.mpr c5
    have c5b1 : ((bt a0 0) != 43) = false := bne_eq_false_iff_eq.mpr c5
    clear c5
    have H' := Aside0.mk H
    clear H
    have p4 : 0 ≤ (0 : Int) := (by omega)
    have q4 : 0 < a0.size := (by have : (0 : Int) < (a0.size : Int) := qd_; omega)
    have hx4 : ∀ h : 0 < a0.size, ((a0[0]'h).toNat : Int) = bt a0 0 := bt_at a0 0
    clear p4
    have qi4 : (0 < (a0.size : Int)) = True := eq_true (qd_)
    replace q4 := eq_true q4
    go_wp2
    go_meet
    case rel => exact ⟨_, (true), qr_, H', ⟨by first | omega | exact Nat.le_refl _⟩, ⟨qb_ HB.out⟩⟩
   ·rw [if_neg c5] at H
    have c5b0 : ((bt a0 0) == 43) = false := beq_eq_false_iff_ne.mpr c5
    have c5b1 : ((bt a0 0) != 43) = true := bne_iff_ne.mpr c5
    have H' := Aside0.mk H
    clear H
    have p4 : 0 ≤ (0 : Int) := (by omega)
    have q4 : 0 < a0.size := (by have : (0 : Int) < (a0.size : Int) := qd_; omega)
    have hx4 : ∀ h : 0 < a0.size, ((a0[0]'h).toNat : Int) = bt a0 0 := bt_at a0 0
    clear p4
    have qi4 : (0 < (a0.size : Int)) = True := eq_true (qd_)
    replace q4 := eq_true q4
    have p6 : 0 ≤ (0 : Int) := (by omega)
    have q6 : 0 < a0.size := (by have : (0 : Int) < (a0.size : Int) := qd_; omega)
    have hx6 : ∀ h : 0 < a0.size, ((a0[0]'h).toNat : Int) = bt a0 0 := bt_at a0 0
    clear p6
    have qi6 : (0 < (a0.size : Int)) = True := eq_true (qd_)
    replace q6 := eq_true q6
    go_wp2
    go_meet
    case rel => exact ⟨_, (((bt a0 0) == 45)), qr_, H', ⟨by first | omega | exact Nat.le_refl _⟩, ⟨qb_ HB.out⟩⟩
  ·rw [if_neg c3] at H
   exact absurd H (by simp)
 case rest =>
  clear HC2
  obtain ⟨kq, x16_1, rfl, HA, HJ1, HB⟩ := hcut
  cases kq with
  | zero => exact absurd HA.out (by simp [letterboxref11_zone.j0])
  | succ kj1 =>
   have H := HA.out
   clear HA
   simp only [letterboxref11_zone.j0] at H
   by_cases c7 : x16_1 = true
   ·subst c7
    have H1 : ((letterboxref11_offset.f kj1 a0).bind fun bt254 => (some (bt254.1, bt254.2))) = some (r1, r2) := by rw [if_pos rfl] at H; exact H
    clear H
    have H := H1
    clear H1
    replace H := Option.bind_eq_some_iff.mp H
    obtain ⟨⟨t254, t255⟩, A80, H⟩ := H
    replace H : (some (t254, t255)) = some (r1, r2) := H
    have A8 := Aside0.mk A80
    clear A80
    simp only [Option.some.injEq, Prod.mk.injEq] at H
    obtain ⟨rfl, rfl⟩ := H
    go_wp2_with (first | ((with_reducible refine gate_callee (f := 35) rfl ?_); refine goesL_ (some 18) rfl rfl Tryd.func35 (by kernel_rfl) rfl #[.string a0] rfl qa_ ?_; (with_reducible refine (letterboxref11_offset.calls kj1 a0 t254 t255 _ A8.out).mono ?_); rintro e w' ⟨rfl, ⟨nd, rfl⟩⟩; refine ⟨_, rfl, ?_⟩))
    go_ret2
    exact ⟨qw_, qb_ HB.out⟩
   ·replace c7 := Bool.eq_false_iff.mpr c7
    subst c7
    have H1 : ((letterboxref01_Fold.f kj1 a0).bind fun t256 => (letterboxref11_zone.l0 kj1 t256 0)) = some (r1, r2) := by rw [if_neg (show ¬ (false = true) by decide)] at H; exact H
    clear H
    have H := H1
    clear H1
    replace H := Option.bind_eq_some_iff.mp H
    obtain ⟨t256, A90, H⟩ := H
    replace H : (letterboxref11_zone.l0 kj1 t256 0) = some (r1, r2) := H
    have A9 := Aside0.mk A90
    clear A90
    have H' := Aside0.mk H
    clear H
    go_wp2_with (first | ((with_reducible refine gate_callee (f := 53) rfl ?_); refine goesL_ (some 22) rfl rfl Tryd.func53 (by kernel_rfl) rfl #[.string a0] rfl qa_ ?_; (with_reducible refine (letterboxref01_Fold.calls kj1 a0 t256 _ A9.out).mono ?_); rintro e w10 ⟨rfl, hb⟩; refine ⟨_, rfl, ?_⟩; have n0_ := Aside0.mk (below_step (qb_ HB.out) hb); clear HB; have HB := n0_; clear n0_; (try clear hb); (try clear hb2); (try clear hk); (try clear hi)))
    go_loopg [5] kj1 (fun kq v5 w' => ∃ (x5_2 : Int), v5 = .int .i64 x5_2 ∧ Aside0 (letterboxref11_zone.l0 kq t256 x5_2 = some (r1, r2)) ∧ Aside0 (kq ≤ kj1) ∧ Aside0 (Below w.heap.size w w'))
    case atStart => exact ⟨(0), qr_, H', ⟨Nat.le_refl _⟩, ⟨qb_ HB.out⟩⟩
    case round =>
     clear H'
     (try clear c7)
     obtain ⟨x5_2, rfl, HA, HK2, HB⟩ := hrel
     cases gk with
     | zero => exact absurd HA.out (by simp [letterboxref11_zone.l0])
     | succ k2 =>
      have H := HA.out
      clear HA
      simp only [letterboxref11_zone.l0] at H
      by_cases c11 : x5_2 < (t256.size : Int)
      ·rw [if_pos c11] at H
       have c11b0 : decide (x5_2 < (t256.size : Int)) = true := decide_eq_true c11
       clear c11
       by_cases c12 : 0 ≤ x5_2
       ·rw [if_pos c12] at H
        have c12b0 : decide (0 ≤ x5_2) = true := decide_eq_true c12
        clear c12
        by_cases c14 : (bt t256 x5_2) < 97
        ·rw [if_pos c14] at H
         have c14b0 : decide ((bt t256 x5_2) < 97) = true := decide_eq_true c14
         clear c14
         simp only [Option.some.injEq, Prod.mk.injEq] at H
         obtain ⟨rfl, rfl⟩ := H
         have p13 : 0 ≤ (x5_2 : Int) := qd_
         have q13 : x5_2 < (t256.size : Int) := qd_
         have hx13 := bt_at t256 x5_2
         replace p13 := eq_true p13
         replace q13 := eq_true q13
         go_wp2
         go_ret2
         exact ⟨qw_, qb_ HB.out⟩
        ·rw [if_neg c14] at H
         have c14b0 : decide ((bt t256 x5_2) < 97) = false := decide_eq_false c14
         clear c14
         by_cases c16 : (bt t256 x5_2) > 122
         ·rw [if_pos c16] at H
          have c16b0 : decide (122 < (bt t256 x5_2)) = true := decide_eq_true c16
          clear c16
          simp only [Option.some.injEq, Prod.mk.injEq] at H
          obtain ⟨rfl, rfl⟩ := H
          have p13 : 0 ≤ (x5_2 : Int) := qd_
          have q13 : x5_2 < (t256.size : Int) := qd_
          have hx13 := bt_at t256 x5_2
          replace p13 := eq_true p13
          replace q13 := eq_true q13
          have p15 : 0 ≤ (x5_2 : Int) := qd_
          have q15 : x5_2 < (t256.size : Int) := qd_
          have hx15 := bt_at t256 x5_2
          replace p15 := eq_true p15
          replace q15 := eq_true q15
          go_wp2
          go_ret2
          exact ⟨qw_, qb_ HB.out⟩
         ·rw [if_neg c16] at H
          have c16b0 : decide (122 < (bt t256 x5_2)) = false := decide_eq_false c16
          clear c16
          have H' := Aside0.mk H
          clear H
          have p13 : 0 ≤ (x5_2 : Int) := qd_
          have q13 : x5_2 < (t256.size : Int) := qd_
          have hx13 := bt_at t256 x5_2
          replace p13 := eq_true p13
          replace q13 := eq_true q13
          have p15 : 0 ≤ (x5_2 : Int) := qd_
          have q15 : x5_2 < (t256.size : Int) := qd_
          have hx15 := bt_at t256 x5_2
          replace p15 := eq_true p15
          replace q15 := eq_true q15
          go_wp2
          go_roundg k2
          case measure => have := HJ1.out; have := HK2.out; omega
          case rel => exact ⟨(wrap64 (x5_2 + 1)), qr_, H', ⟨by have := HJ1.out; have := HK2.out; omega⟩, ⟨qb_ HB.out⟩⟩
       ·rw [if_neg c12] at H
        exact absurd H (by simp)
      ·rw [if_neg c11] at H
       have c11b0 : decide (x5_2 < (t256.size : Int)) = false := decide_eq_false c11
       clear c11
       obtain ⟨y257, hy257⟩ : ∃ y_ : List ByteArray, y_ = (([(⟨#[101, 100, 116]⟩ : ByteArray), (⟨#[101, 115, 116]⟩ : ByteArray), (⟨#[99, 100, 116]⟩ : ByteArray), (⟨#[99, 115, 116]⟩ : ByteArray), (⟨#[109, 100, 116]⟩ : ByteArray), (⟨#[109, 115, 116]⟩ : ByteArray), (⟨#[112, 100, 116]⟩ : ByteArray), (⟨#[112, 115, 116]⟩ : ByteArray)] : List ByteArray)) := ⟨_, rfl⟩
       replace H : (letterboxref11_zone.l1 k2 t256 y257 (([(-4), (-5), (-5), (-6), (-6), (-7), (-7), (-8)] : List Int)) 0) = some (r1, r2) := by first | (rw [hy257]; with_reducible exact H) | (have H2_ := (Option.bind_some _ _).symm.trans H; rw [hy257]; with_reducible exact H2_) | (have H2_ := (Option.bind_some _ _).symm.trans H; with_reducible exact H2_) | with_reducible exact H | (rw [hy257]; exact H) | exact H
       have Ny257 := Aside0.mk hy257
       clear hy257
       obtain ⟨y260, hy260⟩ : ∃ y_ : List Int, y_ = (([(-4), (-5), (-5), (-6), (-6), (-7), (-7), (-8)] : List Int)) := ⟨_, rfl⟩
       replace H : (letterboxref11_zone.l1 k2 t256 y257 y260 0) = some (r1, r2) := by first | (rw [hy260]; with_reducible exact H) | (have H2_ := (Option.bind_some _ _).symm.trans H; rw [hy260]; with_reducible exact H2_) | (have H2_ := (Option.bind_some _ _).symm.trans H; with_reducible exact H2_) | with_reducible exact H | (rw [hy260]; exact H) | exact H
       have Ny260 := Aside0.mk hy260
       clear hy260
       have H' := Aside0.mk H
       clear H
       go_wp2_with (first | ((with_reducible refine gate_dst (N := 39) rfl ?_); refine Kd.R_lit Kd.string _ 9 ?hg (N := 39) ?hd (xs := ([(⟨#[101, 100, 116]⟩ : ByteArray), (⟨#[101, 115, 116]⟩ : ByteArray), (⟨#[99, 100, 116]⟩ : ByteArray), (⟨#[99, 115, 116]⟩ : ByteArray), (⟨#[109, 100, 116]⟩ : ByteArray), (⟨#[109, 115, 116]⟩ : ByteArray), (⟨#[112, 100, 116]⟩ : ByteArray), (⟨#[112, 115, 116]⟩ : ByteArray)] : List ByteArray)) (inner := [.string (⟨#[101, 100, 116]⟩ : ByteArray), .string (⟨#[101, 115, 116]⟩ : ByteArray), .string (⟨#[99, 100, 116]⟩ : ByteArray), .string (⟨#[99, 115, 116]⟩ : ByteArray), .string (⟨#[109, 100, 116]⟩ : ByteArray), .string (⟨#[109, 115, 116]⟩ : ByteArray), .string (⟨#[112, 100, 116]⟩ : ByteArray), .string (⟨#[112, 115, 116]⟩ : ByteArray)]) (ok := fun _ => True) (okp := fun _ => True) ?hr ?hp (fun _ hk => hk) trivial (Below.refl _ _) (Nat.le_refl _) (by simp) ?_; (case hd => rfl); (case hg => rfl); (case hr => first | (go_simp; done) | (go_simp; rfl)); (case hp => exact (Reps.one (show Kd.M Kd.string _ _ _ (⟨#[101, 100, 116]⟩ : ByteArray) [.string (⟨#[101, 100, 116]⟩ : ByteArray)] from rfl) (Reps.one (show Kd.M Kd.string _ _ _ (⟨#[101, 115, 116]⟩ : ByteArray) [.string (⟨#[101, 115, 116]⟩ : ByteArray)] from rfl) (Reps.one (show Kd.M Kd.string _ _ _ (⟨#[99, 100, 116]⟩ : ByteArray) [.string (⟨#[99, 100, 116]⟩ : ByteArray)] from rfl) (Reps.one (show Kd.M Kd.string _ _ _ (⟨#[99, 115, 116]⟩ : ByteArray) [.string (⟨#[99, 115, 116]⟩ : ByteArray)] from rfl) (Reps.one (show Kd.M Kd.string _ _ _ (⟨#[109, 100, 116]⟩ : ByteArray) [.string (⟨#[109, 100, 116]⟩ : ByteArray)] from rfl) (Reps.one (show Kd.M Kd.string _ _ _ (⟨#[109, 115, 116]⟩ : ByteArray) [.string (⟨#[109, 115, 116]⟩ : ByteArray)] from rfl) (Reps.one (show Kd.M Kd.string _ _ _ (⟨#[112, 100, 116]⟩ : ByteArray) [.string (⟨#[112, 100, 116]⟩ : ByteArray)] from rfl) (Reps.one (show Kd.M Kd.string _ _ _ (⟨#[112, 115, 116]⟩ : ByteArray) [.string (⟨#[112, 115, 116]⟩ : ByteArray)] from rfl) (Reps.none _ _)))))))))); intro v258 w17 ho18 hb hg_ hnew_; clear hg_ hnew_; (first | rw [← Ny257.out] at ho18 | (simp only [Int.reduceToNat] at ho18; rw [← Ny257.out] at ho18)); have n0_ := Aside0.mk (Kd.R_lower ho18 (below_size (qb_ HB.out))); have n1_ := Aside0.mk (below_step (qb_ HB.out) hb); clear HB; have HO259 := n0_; have HB := n1_; clear n0_ n1_; clear hb ho18) | ((with_reducible refine gate_dst (N := 40) rfl ?_); refine Kd.R_lit (Kd.int .i64) _ 3 ?hg (N := 40) ?hd (xs := ([(-4), (-5), (-5), (-6), (-6), (-7), (-7), (-8)] : List Int)) (inner := [.int .i64 (-4), .int .i64 (-5), .int .i64 (-5), .int .i64 (-6), .int .i64 (-6), .int .i64 (-7), .int .i64 (-7), .int .i64 (-8)]) (ok := fun _ => True) (okp := fun _ => True) ?hr ?hp (fun _ hk => hk) trivial (Below.refl _ _) (Nat.le_refl _) (by simp) ?_; (case hd => rfl); (case hg => rfl); (case hr => first | (go_simp; done) | (go_simp; rfl)); (case hp => exact (Reps.one (show Kd.M (Kd.int .i64) _ _ _ (-4) [.int .i64 (-4)] from rfl) (Reps.one (show Kd.M (Kd.int .i64) _ _ _ (-5) [.int .i64 (-5)] from rfl) (Reps.one (show Kd.M (Kd.int .i64) _ _ _ (-5) [.int .i64 (-5)] from rfl) (Reps.one (show Kd.M (Kd.int .i64) _ _ _ (-6) [.int .i64 (-6)] from rfl) (Reps.one (show Kd.M (Kd.int .i64) _ _ _ (-6) [.int .i64 (-6)] from rfl) (Reps.one (show Kd.M (Kd.int .i64) _ _ _ (-7) [.int .i64 (-7)] from rfl) (Reps.one (show Kd.M (Kd.int .i64) _ _ _ (-7) [.int .i64 (-7)] from rfl) (Reps.one (show Kd.M (Kd.int .i64) _ _ _ (-8) [.int .i64 (-8)] from rfl) (Reps.none _ _)))))))))); intro v261 w19 ho20 hb hg_ hnew_; clear hg_ hnew_; (first | rw [← Ny260.out] at ho20 | (simp only [Int.reduceToNat] at ho20; rw [← Ny260.out] at ho20)); have n0_ := Aside0.mk (Kd.R_below (ql_ HO259.out) hb); have n1_ := Aside0.mk (Kd.R_lower ho20 (below_size (qb_ HB.out))); have n2_ := Aside0.mk (below_step (qb_ HB.out) hb); clear HO259; clear HB; have HO259 := n0_; have HO262 := n1_; have HB := n2_; clear n0_ n1_ n2_; clear hb ho20))
       go_loopg [8] k2 (fun kq v8 w' => ∃ (x8_3 : Int), v8 = .int .i64 x8_3 ∧ Aside0 (letterboxref11_zone.l1 kq t256 y257 y260 x8_3 = some (r1, r2)) ∧ Aside0 (kq ≤ k2) ∧ Aside0 (Kd.R Kd.string 9 w' w.heap.size (fun _ => True) v258 y257) ∧ Aside0 (Kd.R (Kd.int .i64) 3 w' w.heap.size (fun _ => True) v261 y260) ∧ Aside0 (Below w.heap.size w w'))
       case atStart => exact ⟨(0), qr_, H', ⟨Nat.le_refl _⟩, ⟨ql_ HO259.out⟩, ⟨ql_ HO262.out⟩, ⟨qb_ HB.out⟩⟩
       case round =>
        clear H'
        obtain ⟨x8_3, rfl, HA, HK3, HO_6, HO_7, HB⟩ := hrel
        cases gk with
        | zero => exact absurd HA.out (by simp [letterboxref11_zone.l1])
        | succ k3 =>
         have H := HA.out
         clear HA
         simp only [letterboxref11_zone.l1] at H
         by_cases c21 : x8_3 < (y257.length : Int)
         ·rw [if_pos c21] at H
          have c21b0 : decide (x8_3 < (y257.length : Int)) = true := decide_eq_true c21
          clear c21
          by_cases c22 : 0 ≤ x8_3
          ·rw [if_pos c22] at H
           have c22b0 : decide (0 ≤ x8_3) = true := decide_eq_true c22
           clear c22
           by_cases c23 : (rdOf ByteArray.empty y257 x8_3).toList = t256.toList
           ·rw [if_pos c23] at H
            have c23b0 : ((rdOf ByteArray.empty y257 x8_3).toList == t256.toList) = true := beq_iff_eq.mpr c23
            have c23b1 : ((rdOf ByteArray.empty y257 x8_3).toList != t256.toList) = false := bne_eq_false_iff_eq.mpr c23
            clear c23
            by_cases c24 : x8_3 < (y260.length : Int)
            ·rw [if_pos c24] at H
             have c24b0 : decide (x8_3 < (y260.length : Int)) = true := decide_eq_true c24
             clear c24
             simp only [Option.some.injEq, Prod.mk.injEq] at H
             obtain ⟨rfl, rfl⟩ := H
             obtain ⟨Ao25, co25, eo25⟩ := Kd.R_slice HO_6.out
             subst eo25
             have p263 : 0 ≤ (x8_3 : Int) := qd_
             have q263 : x8_3 < (y257.length : Int) := qd_
             obtain ⟨ad263, e263, hx263_0⟩ := Kd.at_string (Kd.R_reads' HO_6.out).2.2 x8_3 p263 q263
             cases e263
             replace p263 := eq_true p263
             replace q263 := eq_true q263
             obtain ⟨Ao26, co26, eo26⟩ := Kd.R_slice HO_7.out
             subst eo26
             have p264 : 0 ≤ (x8_3 : Int) := qd_
             have q264 : x8_3 < (y260.length : Int) := qd_
             obtain ⟨ad264, e264, hx264_0⟩ := Kd.at_int (Kd.R_reads' HO_7.out).2.2 x8_3 p264 q264
             cases e264
             replace p264 := eq_true p264
             replace q264 := eq_true q264
             go_wp2
             go_ret2
             exact ⟨qw_, qb_ HB.out⟩
            ·rw [if_neg c24] at H
             exact absurd H (by simp)
           ·rw [if_neg c23] at H
            have c23b0 : ((rdOf ByteArray.empty y257 x8_3).toList == t256.toList) = false := beq_eq_false_iff_ne.mpr c23
            have c23b1 : ((rdOf ByteArray.empty y257 x8_3).toList != t256.toList) = true := bne_iff_ne.mpr c23
            have H' := Aside0.mk H
            clear H
            obtain ⟨Ao27, co27, eo27⟩ := Kd.R_slice HO_6.out
            subst eo27
            have p263 : 0 ≤ (x8_3 : Int) := qd_
            have q263 : x8_3 < (y257.length : Int) := qd_
            obtain ⟨ad263, e263, hx263_0⟩ := Kd.at_string (Kd.R_reads' HO_6.out).2.2 x8_3 p263 q263
            cases e263
            replace p263 := eq_true p263
            replace q263 := eq_true q263
            go_wp2
            go_roundg k3
            case measure => have := HJ1.out; have := HK2.out; have := HK3.out; omega
            case rel => exact ⟨(wrap64 (x8_3 + 1)), qr_, H', ⟨by have := HJ1.out; have := HK2.out; have := HK3.out; omega⟩, ⟨ql_ HO_6.out⟩, ⟨ql_ HO_7.out⟩, ⟨qb_ HB.out⟩⟩
          ·rw [if_neg c22] at H
           exact absurd H (by simp)
         ·rw [if_neg c21] at H
          have c21b0 : decide (x8_3 < (y257.length : Int)) = false := decide_eq_false c21
          clear c21
          simp only [Option.some.injEq, Prod.mk.injEq] at H
          obtain ⟨rfl, rfl⟩ := H
          obtain ⟨Ao28, co28, eo28⟩ := Kd.R_slice HO_6.out
          subst eo28
          go_wp2
          go_ret2
          exact ⟨qw_, qb_ HB.out⟩

/-! ### letterboxref11_clock: function 31 -/
def letterboxref11_clock.j0 : Nat → ByteArray → Int → Bool → Option (Int)
 | 0, _, _, _ => none
 | k + 1, x0, x2, x20 => if x20 = true then (some (-1)) else (if 0 ≤ 2 then (if 2 ≤ (x0.size : Int) then ((letterboxref11_digits.f k (x0.extract 0 2) 2 2).bind fun t265 => (if 3 ≤ 5 then (if 5 ≤ (x0.size : Int) then ((letterboxref11_digits.f k (x0.extract 3 5) 2 2).bind fun t266 => (if (x0.size : Int) = 8 then (if 6 ≤ (x0.size : Int) then ((letterboxref11_digits.f k (x0.extract 6 x0.size) 2 2).bind fun t267 => (if 5 < (x0.size : Int) then (if (bt x0 5) = 58 then (if 2 < (x0.size : Int) then (if (bt x0 2) = 58 then (if t265 < 0 then (some (-1)) else (if t265 > 23 then (some (-1)) else (if t266 < 0 then (some (-1)) else (if t266 > 59 then (some (-1)) else (if t267 < 0 then (some (-1)) else (if t267 > x2 then (some (-1)) else (some (wrap64 ((wrap64 ((wrap64 (3600 * t265)) + (wrap64 (60 * t266)))) + t267))))))))) else (some (-1))) else (none)) else (some (-1))) else (none))) else (none)) else (if 2 < (x0.size : Int) then (if (bt x0 2) = 58 then (if t265 < 0 then (some (-1)) else (if t265 > 23 then (some (-1)) else (if t266 < 0 then (some (-1)) else (if t266 > 59 then (some (-1)) else (if 0 < 0 then (some (-1)) else (if 0 > x2 then (some (-1)) else (some (wrap64 ((wrap64 ((wrap64 (3600 * t265)) + (wrap64 (60 * t266)))) + 0))))))))) else (some (-1))) else (none)))) else (none)) else (none))) else (none)) else (none))
def letterboxref11_clock.f (k : Nat) (a0 : ByteArray) (a1 : Bool) (a2 : Int) : Option (Int) := if (a0.size : Int) = 8 then (letterboxref11_clock.j0 k a0 a2 false) else (if a1 = true then (letterboxref11_clock.j0 k a0 a2 true) else (letterboxref11_clock.j0 k a0 a2 ((a0.size : Int) != 5)))
theorem letterboxref11_clock.mono_l : ∀ k, (∀ y0 y1 y2, LeO (letterboxref11_clock.j0 k y0 y1 y2) (letterboxref11_clock.j0 (k + 1) y0 y1 y2))
 | 0 => fun _ _ _ r h => by simp [letterboxref11_clock.j0] at h
 | k + 1 => by
  have ih0 := letterboxref11_clock.mono_l k
  ·intro y0 y1 y2
   unfold letterboxref11_clock.j0
   repeat' first
   | (with_reducible exact ih0 _ _ _)
   | (with_reducible exact letterboxref11_digits.mono _ _ _ _)
   | (with_reducible exact LeO.refl _)
   | (with_reducible exact LeO.none _)
   | (with_reducible refine LeO.ite ?_ ?_)
   | (with_reducible refine LeO.bind ?_ (fun _ => ?_))
   | exact ih0 _ _ _
   | exact letterboxref11_digits.mono _ _ _ _
   | exact LeO.none _
   | refine LeO.ite ?_ ?_
   | refine LeO.bind ?_ (fun _ => ?_)
theorem letterboxref11_clock.mono : ∀ a0 a1 a2 k, LeO (letterboxref11_clock.f k a0 a1 a2) (letterboxref11_clock.f (k + 1) a0 a1 a2) := by
 intro a0 a1 a2 k
 have ih0 := letterboxref11_clock.mono_l k
 unfold letterboxref11_clock.f
 repeat' first
   | (with_reducible exact ih0 _ _ _)
   | (with_reducible exact letterboxref11_digits.mono _ _ _ _)
   | (with_reducible exact LeO.refl _)
   | (with_reducible exact LeO.none _)
   | (with_reducible refine LeO.ite ?_ ?_)
   | (with_reducible refine LeO.bind ?_ (fun _ => ?_))
   | exact ih0 _ _ _
   | exact letterboxref11_digits.mono _ _ _ _
   | exact LeO.none _
   | refine LeO.ite ?_ ?_
   | refine LeO.bind ?_ (fun _ => ?_)
set_option maxHeartbeats 8000000 in
set_option maxRecDepth 100000 in
theorem letterboxref11_clock.calls (k : Nat) (a0 : ByteArray) (a1 : Bool) (a2 : Int) (r : Int) (w : World) (h : letterboxref11_clock.f k a0 a1 a2 = some r) :
  Calls Tryd.prog 31 #[.string a0, .bool a1, .int .i64 a2] w fun e w' => e = .returned (.int .i64 r) ∧ Drawn0 w w' := by
 have H : (if (a0.size : Int) = 8 then (letterboxref11_clock.j0 k a0 a2 false) else (if a1 = true then (letterboxref11_clock.j0 k a0 a2 true) else (letterboxref11_clock.j0 k a0 a2 ((a0.size : Int) != 5)))) = some r := h
 clear h
 have HC4 := Aside0.mk H
 clear H
 go_enter Tryd.func31, Tryd.ntmps31
 go_upto_region 1 with (fail)
 go_cut [20] (fun v20 wc => ∃ (kq : Nat) (x20_3 : Bool), v20 = .bool x20_3 ∧ Aside0 (letterboxref11_clock.j0 kq a0 a2 x20_3 = some r) ∧ Aside0 (kq ≤ k) ∧ Drawn0 w wc)
 case first =>
  have H := HC4.out
  clear HC4
  by_cases c5 : (a0.size : Int) = 8
  ·rw [if_pos c5] at H
   have c5b0 : ((a0.size : Int) == 8) = true := beq_iff_eq.mpr c5
   have c5b1 : ((a0.size : Int) != 8) = false := bne_eq_false_iff_eq.mpr c5
   clear c5
   (first | rw [c5b0] | (simp only [i64_w, i32_w]; rw [c5b0]) | skip)
   have H' := Aside0.mk H
   clear H
   go_wp2
   go_meet
   case rel => exact ⟨_, (false), qr_, H', ⟨by first | omega | exact Nat.le_refl _⟩, by repeat (first | exact Drawn0.refl _ | apply Drawn0.step)⟩
  ·rw [if_neg c5] at H
   have c5b0 : ((a0.size : Int) == 8) = false := beq_eq_false_iff_ne.mpr c5
   have c5b1 : ((a0.size : Int) != 8) = true := bne_iff_ne.mpr c5
   (first | rw [c5b0] | (simp only [i64_w, i32_w]; rw [c5b0]) | skip)
   by_cases c6 : a1 = true
   ·subst c6
    have H1 : (letterboxref11_clock.j0 k a0 a2 true) = some r := by rw [if_pos rfl] at H; exact H
    clear H
    have H := H1
    clear H1
    have H' := Aside0.mk H
    clear H
    go_wp2
    go_meet
    case rel => exact ⟨_, (true), qr_, H', ⟨by first | omega | exact Nat.le_refl _⟩, by repeat (first | exact Drawn0.refl _ | apply Drawn0.step)⟩
   ·replace c6 := Bool.eq_false_iff.mpr c6
    subst c6
    have H1 : (letterboxref11_clock.j0 k a0 a2 ((a0.size : Int) != 5)) = some r := by rw [if_neg (show ¬ (false = true) by decide)] at H; exact H
    clear H
    have H := H1
    clear H1
    have H' := Aside0.mk H
    clear H
    go_wp2
    go_meet
    case rel => exact ⟨_, (((a0.size : Int) != 5)), qr_, H', ⟨by first | omega | exact Nat.le_refl _⟩, by repeat (first | exact Drawn0.refl _ | apply Drawn0.step)⟩
 case rest =>
  clear HC4
  obtain ⟨kq, x20_3, rfl, HA, HJ3, ⟨mc3, rfl⟩⟩ := hcut
  cases kq with
  | zero => exact absurd HA.out (by simp [letterboxref11_clock.j0])
  | succ kj3 =>
   have H := HA.out
   clear HA
   simp only [letterboxref11_clock.j0] at H
   by_cases c7 : x20_3 = true
   ·subst c7
    have H1 : (some (-1)) = some r := by rw [if_pos rfl] at H; exact H
    clear H
    have H := H1
    clear H1
    obtain rfl := Option.some.inj H
    go_wp2
    go_ret
    exact ⟨by first | rfl | (simp; done) | (simp [*]; done), by repeat (first | exact Drawn0.refl _ | apply Drawn0.step)⟩
   ·replace c7 := Bool.eq_false_iff.mpr c7
    subst c7
    have H1 : (if 0 ≤ 2 then (if 2 ≤ (a0.size : Int) then ((letterboxref11_digits.f kj3 (a0.extract 0 2) 2 2).bind fun t265 => (if 3 ≤ 5 then (if 5 ≤ (a0.size : Int) then ((letterboxref11_digits.f kj3 (a0.extract 3 5) 2 2).bind fun t266 => (if (a0.size : Int) = 8 then (if 6 ≤ (a0.size : Int) then ((letterboxref11_digits.f kj3 (a0.extract 6 a0.size) 2 2).bind fun t267 => (if 5 < (a0.size : Int) then (if (bt a0 5) = 58 then (if 2 < (a0.size : Int) then (if (bt a0 2) = 58 then (if t265 < 0 then (some (-1)) else (if t265 > 23 then (some (-1)) else (if t266 < 0 then (some (-1)) else (if t266 > 59 then (some (-1)) else (if t267 < 0 then (some (-1)) else (if t267 > a2 then (some (-1)) else (some (wrap64 ((wrap64 ((wrap64 (3600 * t265)) + (wrap64 (60 * t266)))) + t267))))))))) else (some (-1))) else (none)) else (some (-1))) else (none))) else (none)) else (if 2 < (a0.size : Int) then (if (bt a0 2) = 58 then (if t265 < 0 then (some (-1)) else (if t265 > 23 then (some (-1)) else (if t266 < 0 then (some (-1)) else (if t266 > 59 then (some (-1)) else (if 0 < 0 then (some (-1)) else (if 0 > a2 then (some (-1)) else (some (wrap64 ((wrap64 ((wrap64 (3600 * t265)) + (wrap64 (60 * t266)))) + 0))))))))) else (some (-1))) else (none)))) else (none)) else (none))) else (none)) else (none)) = some r := by rw [if_neg (show ¬ (false = true) by decide)] at H; exact H
    clear H
    have H := H1
    clear H1
    by_cases c8 : 0 ≤ 2
    ·rw [if_pos c8] at H
     have c8b0 := eq_true c8
     have c8b1 : decide (0 ≤ 2) = true := decide_eq_true c8
     clear c8
     by_cases c9 : 2 ≤ (a0.size : Int)
     ·rw [if_pos c9] at H
      have c9b0 := eq_true c9
      have c9b1 : decide (2 ≤ (a0.size : Int)) = true := decide_eq_true c9
      clear c9
      replace H := Option.bind_eq_some_iff.mp H
      obtain ⟨t265, A100, H⟩ := H
      replace H : (if 3 ≤ 5 then (if 5 ≤ (a0.size : Int) then ((letterboxref11_digits.f kj3 (a0.extract 3 5) 2 2).bind fun t266 => (if (a0.size : Int) = 8 then (if 6 ≤ (a0.size : Int) then ((letterboxref11_digits.f kj3 (a0.extract 6 a0.size) 2 2).bind fun t267 => (if 5 < (a0.size : Int) then (if (bt a0 5) = 58 then (if 2 < (a0.size : Int) then (if (bt a0 2) = 58 then (if t265 < 0 then (some (-1)) else (if t265 > 23 then (some (-1)) else (if t266 < 0 then (some (-1)) else (if t266 > 59 then (some (-1)) else (if t267 < 0 then (some (-1)) else (if t267 > a2 then (some (-1)) else (some (wrap64 ((wrap64 ((wrap64 (3600 * t265)) + (wrap64 (60 * t266)))) + t267))))))))) else (some (-1))) else (none)) else (some (-1))) else (none))) else (none)) else (if 2 < (a0.size : Int) then (if (bt a0 2) = 58 then (if t265 < 0 then (some (-1)) else (if t265 > 23 then (some (-1)) else (if t266 < 0 then (some (-1)) else (if t266 > 59 then (some (-1)) else (if 0 < 0 then (some (-1)) else (if 0 > a2 then (some (-1)) else (some (wrap64 ((wrap64 ((wrap64 (3600 * t265)) + (wrap64 (60 * t266)))) + 0))))))))) else (some (-1))) else (none)))) else (none)) else (none)) = some r := H
      have A10 := Aside0.mk A100
      clear A100
      by_cases c11 : 3 ≤ 5
      ·rw [if_pos c11] at H
       have c11b0 := eq_true c11
       have c11b1 : decide (3 ≤ 5) = true := decide_eq_true c11
       clear c11
       by_cases c12 : 5 ≤ (a0.size : Int)
       ·rw [if_pos c12] at H
        have c12b0 := eq_true c12
        have c12b1 : decide (5 ≤ (a0.size : Int)) = true := decide_eq_true c12
        clear c12
        replace H := Option.bind_eq_some_iff.mp H
        obtain ⟨t266, A130, H⟩ := H
        replace H : (if (a0.size : Int) = 8 then (if 6 ≤ (a0.size : Int) then ((letterboxref11_digits.f kj3 (a0.extract 6 a0.size) 2 2).bind fun t267 => (if 5 < (a0.size : Int) then (if (bt a0 5) = 58 then (if 2 < (a0.size : Int) then (if (bt a0 2) = 58 then (if t265 < 0 then (some (-1)) else (if t265 > 23 then (some (-1)) else (if t266 < 0 then (some (-1)) else (if t266 > 59 then (some (-1)) else (if t267 < 0 then (some (-1)) else (if t267 > a2 then (some (-1)) else (some (wrap64 ((wrap64 ((wrap64 (3600 * t265)) + (wrap64 (60 * t266)))) + t267))))))))) else (some (-1))) else (none)) else (some (-1))) else (none))) else (none)) else (if 2 < (a0.size : Int) then (if (bt a0 2) = 58 then (if t265 < 0 then (some (-1)) else (if t265 > 23 then (some (-1)) else (if t266 < 0 then (some (-1)) else (if t266 > 59 then (some (-1)) else (if 0 < 0 then (some (-1)) else (if 0 > a2 then (some (-1)) else (some (wrap64 ((wrap64 ((wrap64 (3600 * t265)) + (wrap64 (60 * t266)))) + 0))))))))) else (some (-1))) else (none))) = some r := H
        have A13 := Aside0.mk A130
        clear A130
        by_cases c14 : (a0.size : Int) = 8
        ·rw [if_pos c14] at H
         have c14b0 : ((a0.size : Int) == 8) = true := beq_iff_eq.mpr c14
         have c14b1 : ((a0.size : Int) != 8) = false := bne_eq_false_iff_eq.mpr c14
         clear c14
         by_cases c15 : 6 ≤ (a0.size : Int)
         ·rw [if_pos c15] at H
          have c15b0 := eq_true c15
          have c15b1 : decide (6 ≤ (a0.size : Int)) = true := decide_eq_true c15
          clear c15
          replace H := Option.bind_eq_some_iff.mp H
          obtain ⟨t267, A160, H⟩ := H
          replace H : (if 5 < (a0.size : Int) then (if (bt a0 5) = 58 then (if 2 < (a0.size : Int) then (if (bt a0 2) = 58 then (if t265 < 0 then (some (-1)) else (if t265 > 23 then (some (-1)) else (if t266 < 0 then (some (-1)) else (if t266 > 59 then (some (-1)) else (if t267 < 0 then (some (-1)) else (if t267 > a2 then (some (-1)) else (some (wrap64 ((wrap64 ((wrap64 (3600 * t265)) + (wrap64 (60 * t266)))) + t267))))))))) else (some (-1))) else (none)) else (some (-1))) else (none)) = some r := H
          have A16 := Aside0.mk A160
          clear A160
          by_cases c17 : 5 < (a0.size : Int)
          ·rw [if_pos c17] at H
           have c17b0 : decide (5 < (a0.size : Int)) = true := decide_eq_true c17
           have c17b1 : decide (5 < a0.size) = true := decide_eq_true (by omega)
           clear c17
           by_cases c19 : (bt a0 5) = 58
           ·rw [if_pos c19] at H
            have c19b0 : ((bt a0 5) == 58) = true := beq_iff_eq.mpr c19
            have c19b1 : ((bt a0 5) != 58) = false := bne_eq_false_iff_eq.mpr c19
            clear c19
            by_cases c20 : 2 < (a0.size : Int)
            ·rw [if_pos c20] at H
             have c20b0 : decide (2 < (a0.size : Int)) = true := decide_eq_true c20
             have c20b1 : decide (2 < a0.size) = true := decide_eq_true (by omega)
             clear c20
             by_cases c22 : (bt a0 2) = 58
             ·rw [if_pos c22] at H
              have c22b0 : ((bt a0 2) == 58) = true := beq_iff_eq.mpr c22
              have c22b1 : ((bt a0 2) != 58) = false := bne_eq_false_iff_eq.mpr c22
              clear c22
              by_cases c23 : t265 < 0
              ·rw [if_pos c23] at H
               have c23b0 : decide (t265 < 0) = true := decide_eq_true c23
               clear c23
               obtain rfl := Option.some.inj H
               go_wp2_with (first | ((with_reducible refine gate_callee (f := 29) rfl ?_); refine goesL_ (some 23) rfl rfl Tryd.func29 (by kernel_rfl) rfl #[.string (a0.extract 0 2), .int .i64 2, .int .i64 2] rfl qa_ ?_; (with_reducible refine (letterboxref11_digits.calls kj3 (a0.extract 0 2) 2 2 t265 _ A10.out).mono ?_); rintro e w' ⟨rfl, ⟨nd, rfl⟩⟩; refine ⟨_, rfl, ?_⟩) | ((with_reducible refine gate_callee (f := 29) rfl ?_); refine goesL_ (some 26) rfl rfl Tryd.func29 (by kernel_rfl) rfl #[.string (a0.extract 3 5), .int .i64 2, .int .i64 2] rfl qa_ ?_; (with_reducible refine (letterboxref11_digits.calls kj3 (a0.extract 3 5) 2 2 t266 _ A13.out).mono ?_); rintro e w' ⟨rfl, ⟨nd, rfl⟩⟩; refine ⟨_, rfl, ?_⟩) | ((with_reducible refine gate_callee (f := 29) rfl ?_); refine goesL_ (some 32) rfl rfl Tryd.func29 (by kernel_rfl) rfl #[.string (a0.extract 6 a0.size), .int .i64 2, .int .i64 2] rfl qa_ ?_; (with_reducible refine (letterboxref11_digits.calls kj3 (a0.extract 6 a0.size) 2 2 t267 _ A16.out).mono ?_); rintro e w' ⟨rfl, ⟨nd, rfl⟩⟩; refine ⟨_, rfl, ?_⟩; have p18 : 0 ≤ (5 : Int) := (by omega); have q18 : 5 < a0.size := (by have : (5 : Int) < (a0.size : Int) := qd_; omega); have hx18 : ∀ h : 5 < a0.size, ((a0[5]'h).toNat : Int) = bt a0 5 := bt_at a0 5; clear p18; have qi18 : (5 < (a0.size : Int)) = True := eq_true (qd_); replace q18 := eq_true q18; have p21 : 0 ≤ (2 : Int) := (by omega); have q21 : 2 < a0.size := (by have : (2 : Int) < (a0.size : Int) := qd_; omega); have hx21 : ∀ h : 2 < a0.size, ((a0[2]'h).toNat : Int) = bt a0 2 := bt_at a0 2; clear p21; have qi21 : (2 < (a0.size : Int)) = True := eq_true (qd_); replace q21 := eq_true q21))
               go_ret
               exact ⟨by first | rfl | (simp; done) | (simp [*]; done), by repeat (first | exact Drawn0.refl _ | apply Drawn0.step)⟩
              ·rw [if_neg c23] at H
               have c23b0 : decide (t265 < 0) = false := decide_eq_false c23
               clear c23
               by_cases c24 : t265 > 23
               ·rw [if_pos c24] at H
                have c24b0 : decide (23 < t265) = true := decide_eq_true c24
                clear c24
                obtain rfl := Option.some.inj H
                go_wp2_with (first | ((with_reducible refine gate_callee (f := 29) rfl ?_); refine goesL_ (some 23) rfl rfl Tryd.func29 (by kernel_rfl) rfl #[.string (a0.extract 0 2), .int .i64 2, .int .i64 2] rfl qa_ ?_; (with_reducible refine (letterboxref11_digits.calls kj3 (a0.extract 0 2) 2 2 t265 _ A10.out).mono ?_); rintro e w' ⟨rfl, ⟨nd, rfl⟩⟩; refine ⟨_, rfl, ?_⟩) | ((with_reducible refine gate_callee (f := 29) rfl ?_); refine goesL_ (some 26) rfl rfl Tryd.func29 (by kernel_rfl) rfl #[.string (a0.extract 3 5), .int .i64 2, .int .i64 2] rfl qa_ ?_; (with_reducible refine (letterboxref11_digits.calls kj3 (a0.extract 3 5) 2 2 t266 _ A13.out).mono ?_); rintro e w' ⟨rfl, ⟨nd, rfl⟩⟩; refine ⟨_, rfl, ?_⟩) | ((with_reducible refine gate_callee (f := 29) rfl ?_); refine goesL_ (some 32) rfl rfl Tryd.func29 (by kernel_rfl) rfl #[.string (a0.extract 6 a0.size), .int .i64 2, .int .i64 2] rfl qa_ ?_; (with_reducible refine (letterboxref11_digits.calls kj3 (a0.extract 6 a0.size) 2 2 t267 _ A16.out).mono ?_); rintro e w' ⟨rfl, ⟨nd, rfl⟩⟩; refine ⟨_, rfl, ?_⟩; have p18 : 0 ≤ (5 : Int) := (by omega); have q18 : 5 < a0.size := (by have : (5 : Int) < (a0.size : Int) := qd_; omega); have hx18 : ∀ h : 5 < a0.size, ((a0[5]'h).toNat : Int) = bt a0 5 := bt_at a0 5; clear p18; have qi18 : (5 < (a0.size : Int)) = True := eq_true (qd_); replace q18 := eq_true q18; have p21 : 0 ≤ (2 : Int) := (by omega); have q21 : 2 < a0.size := (by have : (2 : Int) < (a0.size : Int) := qd_; omega); have hx21 : ∀ h : 2 < a0.size, ((a0[2]'h).toNat : Int) = bt a0 2 := bt_at a0 2; clear p21; have qi21 : (2 < (a0.size : Int)) = True := eq_true (qd_); replace q21 := eq_true q21))
                go_ret
                exact ⟨by first | rfl | (simp; done) | (simp [*]; done), by repeat (first | exact Drawn0.refl _ | apply Drawn0.step)⟩
               ·rw [if_neg c24] at H
                have c24b0 : decide (23 < t265) = false := decide_eq_false c24
                clear c24
                by_cases c25 : t266 < 0
                ·rw [if_pos c25] at H
                 have c25b0 : decide (t266 < 0) = true := decide_eq_true c25
                 clear c25
                 obtain rfl := Option.some.inj H
                 go_wp2_with (first | ((with_reducible refine gate_callee (f := 29) rfl ?_); refine goesL_ (some 23) rfl rfl Tryd.func29 (by kernel_rfl) rfl #[.string (a0.extract 0 2), .int .i64 2, .int .i64 2] rfl qa_ ?_; (with_reducible refine (letterboxref11_digits.calls kj3 (a0.extract 0 2) 2 2 t265 _ A10.out).mono ?_); rintro e w' ⟨rfl, ⟨nd, rfl⟩⟩; refine ⟨_, rfl, ?_⟩) | ((with_reducible refine gate_callee (f := 29) rfl ?_); refine goesL_ (some 26) rfl rfl Tryd.func29 (by kernel_rfl) rfl #[.string (a0.extract 3 5), .int .i64 2, .int .i64 2] rfl qa_ ?_; (with_reducible refine (letterboxref11_digits.calls kj3 (a0.extract 3 5) 2 2 t266 _ A13.out).mono ?_); rintro e w' ⟨rfl, ⟨nd, rfl⟩⟩; refine ⟨_, rfl, ?_⟩) | ((with_reducible refine gate_callee (f := 29) rfl ?_); refine goesL_ (some 32) rfl rfl Tryd.func29 (by kernel_rfl) rfl #[.string (a0.extract 6 a0.size), .int .i64 2, .int .i64 2] rfl qa_ ?_; (with_reducible refine (letterboxref11_digits.calls kj3 (a0.extract 6 a0.size) 2 2 t267 _ A16.out).mono ?_); rintro e w' ⟨rfl, ⟨nd, rfl⟩⟩; refine ⟨_, rfl, ?_⟩; have p18 : 0 ≤ (5 : Int) := (by omega); have q18 : 5 < a0.size := (by have : (5 : Int) < (a0.size : Int) := qd_; omega); have hx18 : ∀ h : 5 < a0.size, ((a0[5]'h).toNat : Int) = bt a0 5 := bt_at a0 5; clear p18; have qi18 : (5 < (a0.size : Int)) = True := eq_true (qd_); replace q18 := eq_true q18; have p21 : 0 ≤ (2 : Int) := (by omega); have q21 : 2 < a0.size := (by have : (2 : Int) < (a0.size : Int) := qd_; omega); have hx21 : ∀ h : 2 < a0.size, ((a0[2]'h).toNat : Int) = bt a0 2 := bt_at a0 2; clear p21; have qi21 : (2 < (a0.size : Int)) = True := eq_true (qd_); replace q21 := eq_true q21))
                 go_ret
                 exact ⟨by first | rfl | (simp; done) | (simp [*]; done), by repeat (first | exact Drawn0.refl _ | apply Drawn0.step)⟩
                ·rw [if_neg c25] at H
                 have c25b0 : decide (t266 < 0) = false := decide_eq_false c25
                 clear c25
                 by_cases c26 : t266 > 59
                 ·rw [if_pos c26] at H
                  have c26b0 : decide (59 < t266) = true := decide_eq_true c26
                  clear c26
                  obtain rfl := Option.some.inj H
                  go_wp2_with (first | ((with_reducible refine gate_callee (f := 29) rfl ?_); refine goesL_ (some 23) rfl rfl Tryd.func29 (by kernel_rfl) rfl #[.string (a0.extract 0 2), .int .i64 2, .int .i64 2] rfl qa_ ?_; (with_reducible refine (letterboxref11_digits.calls kj3 (a0.extract 0 2) 2 2 t265 _ A10.out).mono ?_); rintro e w' ⟨rfl, ⟨nd, rfl⟩⟩; refine ⟨_, rfl, ?_⟩) | ((with_reducible refine gate_callee (f := 29) rfl ?_); refine goesL_ (some 26) rfl rfl Tryd.func29 (by kernel_rfl) rfl #[.string (a0.extract 3 5), .int .i64 2, .int .i64 2] rfl qa_ ?_; (with_reducible refine (letterboxref11_digits.calls kj3 (a0.extract 3 5) 2 2 t266 _ A13.out).mono ?_); rintro e w' ⟨rfl, ⟨nd, rfl⟩⟩; refine ⟨_, rfl, ?_⟩) | ((with_reducible refine gate_callee (f := 29) rfl ?_); refine goesL_ (some 32) rfl rfl Tryd.func29 (by kernel_rfl) rfl #[.string (a0.extract 6 a0.size), .int .i64 2, .int .i64 2] rfl qa_ ?_; (with_reducible refine (letterboxref11_digits.calls kj3 (a0.extract 6 a0.size) 2 2 t267 _ A16.out).mono ?_); rintro e w' ⟨rfl, ⟨nd, rfl⟩⟩; refine ⟨_, rfl, ?_⟩; have p18 : 0 ≤ (5 : Int) := (by omega); have q18 : 5 < a0.size := (by have : (5 : Int) < (a0.size : Int) := qd_; omega); have hx18 : ∀ h : 5 < a0.size, ((a0[5]'h).toNat : Int) = bt a0 5 := bt_at a0 5; clear p18; have qi18 : (5 < (a0.size : Int)) = True := eq_true (qd_); replace q18 := eq_true q18; have p21 : 0 ≤ (2 : Int) := (by omega); have q21 : 2 < a0.size := (by have : (2 : Int) < (a0.size : Int) := qd_; omega); have hx21 : ∀ h : 2 < a0.size, ((a0[2]'h).toNat : Int) = bt a0 2 := bt_at a0 2; clear p21; have qi21 : (2 < (a0.size : Int)) = True := eq_true (qd_); replace q21 := eq_true q21))
                  go_ret
                  exact ⟨by first | rfl | (simp; done) | (simp [*]; done), by repeat (first | exact Drawn0.refl _ | apply Drawn0.step)⟩
                 ·rw [if_neg c26] at H
                  have c26b0 : decide (59 < t266) = false := decide_eq_false c26
                  clear c26
                  by_cases c27 : t267 < 0
                  ·rw [if_pos c27] at H
                   have c27b0 : decide (t267 < 0) = true := decide_eq_true c27
                   clear c27
                   obtain rfl := Option.some.inj H
                   go_wp2_with (first | ((with_reducible refine gate_callee (f := 29) rfl ?_); refine goesL_ (some 23) rfl rfl Tryd.func29 (by kernel_rfl) rfl #[.string (a0.extract 0 2), .int .i64 2, .int .i64 2] rfl qa_ ?_; (with_reducible refine (letterboxref11_digits.calls kj3 (a0.extract 0 2) 2 2 t265 _ A10.out).mono ?_); rintro e w' ⟨rfl, ⟨nd, rfl⟩⟩; refine ⟨_, rfl, ?_⟩) | ((with_reducible refine gate_callee (f := 29) rfl ?_); refine goesL_ (some 26) rfl rfl Tryd.func29 (by kernel_rfl) rfl #[.string (a0.extract 3 5), .int .i64 2, .int .i64 2] rfl qa_ ?_; (with_reducible refine (letterboxref11_digits.calls kj3 (a0.extract 3 5) 2 2 t266 _ A13.out).mono ?_); rintro e w' ⟨rfl, ⟨nd, rfl⟩⟩; refine ⟨_, rfl, ?_⟩) | ((with_reducible refine gate_callee (f := 29) rfl ?_); refine goesL_ (some 32) rfl rfl Tryd.func29 (by kernel_rfl) rfl #[.string (a0.extract 6 a0.size), .int .i64 2, .int .i64 2] rfl qa_ ?_; (with_reducible refine (letterboxref11_digits.calls kj3 (a0.extract 6 a0.size) 2 2 t267 _ A16.out).mono ?_); rintro e w' ⟨rfl, ⟨nd, rfl⟩⟩; refine ⟨_, rfl, ?_⟩; have p18 : 0 ≤ (5 : Int) := (by omega); have q18 : 5 < a0.size := (by have : (5 : Int) < (a0.size : Int) := qd_; omega); have hx18 : ∀ h : 5 < a0.size, ((a0[5]'h).toNat : Int) = bt a0 5 := bt_at a0 5; clear p18; have qi18 : (5 < (a0.size : Int)) = True := eq_true (qd_); replace q18 := eq_true q18; have p21 : 0 ≤ (2 : Int) := (by omega); have q21 : 2 < a0.size := (by have : (2 : Int) < (a0.size : Int) := qd_; omega); have hx21 : ∀ h : 2 < a0.size, ((a0[2]'h).toNat : Int) = bt a0 2 := bt_at a0 2; clear p21; have qi21 : (2 < (a0.size : Int)) = True := eq_true (qd_); replace q21 := eq_true q21))
                   go_ret
                   exact ⟨by first | rfl | (simp; done) | (simp [*]; done), by repeat (first | exact Drawn0.refl _ | apply Drawn0.step)⟩
                  ·rw [if_neg c27] at H
                   have c27b0 : decide (t267 < 0) = false := decide_eq_false c27
                   clear c27
                   by_cases c28 : t267 > a2
                   ·rw [if_pos c28] at H
                    have c28b0 : decide (a2 < t267) = true := decide_eq_true c28
                    clear c28
                    obtain rfl := Option.some.inj H
                    go_wp2_with (first | ((with_reducible refine gate_callee (f := 29) rfl ?_); refine goesL_ (some 23) rfl rfl Tryd.func29 (by kernel_rfl) rfl #[.string (a0.extract 0 2), .int .i64 2, .int .i64 2] rfl qa_ ?_; (with_reducible refine (letterboxref11_digits.calls kj3 (a0.extract 0 2) 2 2 t265 _ A10.out).mono ?_); rintro e w' ⟨rfl, ⟨nd, rfl⟩⟩; refine ⟨_, rfl, ?_⟩) | ((with_reducible refine gate_callee (f := 29) rfl ?_); refine goesL_ (some 26) rfl rfl Tryd.func29 (by kernel_rfl) rfl #[.string (a0.extract 3 5), .int .i64 2, .int .i64 2] rfl qa_ ?_; (with_reducible refine (letterboxref11_digits.calls kj3 (a0.extract 3 5) 2 2 t266 _ A13.out).mono ?_); rintro e w' ⟨rfl, ⟨nd, rfl⟩⟩; refine ⟨_, rfl, ?_⟩) | ((with_reducible refine gate_callee (f := 29) rfl ?_); refine goesL_ (some 32) rfl rfl Tryd.func29 (by kernel_rfl) rfl #[.string (a0.extract 6 a0.size), .int .i64 2, .int .i64 2] rfl qa_ ?_; (with_reducible refine (letterboxref11_digits.calls kj3 (a0.extract 6 a0.size) 2 2 t267 _ A16.out).mono ?_); rintro e w' ⟨rfl, ⟨nd, rfl⟩⟩; refine ⟨_, rfl, ?_⟩; have p18 : 0 ≤ (5 : Int) := (by omega); have q18 : 5 < a0.size := (by have : (5 : Int) < (a0.size : Int) := qd_; omega); have hx18 : ∀ h : 5 < a0.size, ((a0[5]'h).toNat : Int) = bt a0 5 := bt_at a0 5; clear p18; have qi18 : (5 < (a0.size : Int)) = True := eq_true (qd_); replace q18 := eq_true q18; have p21 : 0 ≤ (2 : Int) := (by omega); have q21 : 2 < a0.size := (by have : (2 : Int) < (a0.size : Int) := qd_; omega); have hx21 : ∀ h : 2 < a0.size, ((a0[2]'h).toNat : Int) = bt a0 2 := bt_at a0 2; clear p21; have qi21 : (2 < (a0.size : Int)) = True := eq_true (qd_); replace q21 := eq_true q21))
                    go_ret
                    exact ⟨by first | rfl | (simp; done) | (simp [*]; done), by repeat (first | exact Drawn0.refl _ | apply Drawn0.step)⟩
                   ·rw [if_neg c28] at H
                    have c28b0 : decide (a2 < t267) = false := decide_eq_false c28
                    clear c28
                    obtain rfl := Option.some.inj H
                    go_wp2_with (first | ((with_reducible refine gate_callee (f := 29) rfl ?_); refine goesL_ (some 23) rfl rfl Tryd.func29 (by kernel_rfl) rfl #[.string (a0.extract 0 2), .int .i64 2, .int .i64 2] rfl qa_ ?_; (with_reducible refine (letterboxref11_digits.calls kj3 (a0.extract 0 2) 2 2 t265 _ A10.out).mono ?_); rintro e w' ⟨rfl, ⟨nd, rfl⟩⟩; refine ⟨_, rfl, ?_⟩) | ((with_reducible refine gate_callee (f := 29) rfl ?_); refine goesL_ (some 26) rfl rfl Tryd.func29 (by kernel_rfl) rfl #[.string (a0.extract 3 5), .int .i64 2, .int .i64 2] rfl qa_ ?_; (with_reducible refine (letterboxref11_digits.calls kj3 (a0.extract 3 5) 2 2 t266 _ A13.out).mono ?_); rintro e w' ⟨rfl, ⟨nd, rfl⟩⟩; refine ⟨_, rfl, ?_⟩) | ((with_reducible refine gate_callee (f := 29) rfl ?_); refine goesL_ (some 32) rfl rfl Tryd.func29 (by kernel_rfl) rfl #[.string (a0.extract 6 a0.size), .int .i64 2, .int .i64 2] rfl qa_ ?_; (with_reducible refine (letterboxref11_digits.calls kj3 (a0.extract 6 a0.size) 2 2 t267 _ A16.out).mono ?_); rintro e w' ⟨rfl, ⟨nd, rfl⟩⟩; refine ⟨_, rfl, ?_⟩; have p18 : 0 ≤ (5 : Int) := (by omega); have q18 : 5 < a0.size := (by have : (5 : Int) < (a0.size : Int) := qd_; omega); have hx18 : ∀ h : 5 < a0.size, ((a0[5]'h).toNat : Int) = bt a0 5 := bt_at a0 5; clear p18; have qi18 : (5 < (a0.size : Int)) = True := eq_true (qd_); replace q18 := eq_true q18; have p21 : 0 ≤ (2 : Int) := (by omega); have q21 : 2 < a0.size := (by have : (2 : Int) < (a0.size : Int) := qd_; omega); have hx21 : ∀ h : 2 < a0.size, ((a0[2]'h).toNat : Int) = bt a0 2 := bt_at a0 2; clear p21; have qi21 : (2 < (a0.size : Int)) = True := eq_true (qd_); replace q21 := eq_true q21))
                    go_ret
                    exact ⟨by first | rfl | (simp; done) | (simp [*]; done), by repeat (first | exact Drawn0.refl _ | apply Drawn0.step)⟩
             ·rw [if_neg c22] at H
              have c22b0 : ((bt a0 2) == 58) = false := beq_eq_false_iff_ne.mpr c22
              have c22b1 : ((bt a0 2) != 58) = true := bne_iff_ne.mpr c22
              obtain rfl := Option.some.inj H
              go_wp2_with (first | ((with_reducible refine gate_callee (f := 29) rfl ?_); refine goesL_ (some 23) rfl rfl Tryd.func29 (by kernel_rfl) rfl #[.string (a0.extract 0 2), .int .i64 2, .int .i64 2] rfl qa_ ?_; (with_reducible refine (letterboxref11_digits.calls kj3 (a0.extract 0 2) 2 2 t265 _ A10.out).mono ?_); rintro e w' ⟨rfl, ⟨nd, rfl⟩⟩; refine ⟨_, rfl, ?_⟩) | ((with_reducible refine gate_callee (f := 29) rfl ?_); refine goesL_ (some 26) rfl rfl Tryd.func29 (by kernel_rfl) rfl #[.string (a0.extract 3 5), .int .i64 2, .int .i64 2] rfl qa_ ?_; (with_reducible refine (letterboxref11_digits.calls kj3 (a0.extract 3 5) 2 2 t266 _ A13.out).mono ?_); rintro e w' ⟨rfl, ⟨nd, rfl⟩⟩; refine ⟨_, rfl, ?_⟩) | ((with_reducible refine gate_callee (f := 29) rfl ?_); refine goesL_ (some 32) rfl rfl Tryd.func29 (by kernel_rfl) rfl #[.string (a0.extract 6 a0.size), .int .i64 2, .int .i64 2] rfl qa_ ?_; (with_reducible refine (letterboxref11_digits.calls kj3 (a0.extract 6 a0.size) 2 2 t267 _ A16.out).mono ?_); rintro e w' ⟨rfl, ⟨nd, rfl⟩⟩; refine ⟨_, rfl, ?_⟩; have p18 : 0 ≤ (5 : Int) := (by omega); have q18 : 5 < a0.size := (by have : (5 : Int) < (a0.size : Int) := qd_; omega); have hx18 : ∀ h : 5 < a0.size, ((a0[5]'h).toNat : Int) = bt a0 5 := bt_at a0 5; clear p18; have qi18 : (5 < (a0.size : Int)) = True := eq_true (qd_); replace q18 := eq_true q18; have p21 : 0 ≤ (2 : Int) := (by omega); have q21 : 2 < a0.size := (by have : (2 : Int) < (a0.size : Int) := qd_; omega); have hx21 : ∀ h : 2 < a0.size, ((a0[2]'h).toNat : Int) = bt a0 2 := bt_at a0 2; clear p21; have qi21 : (2 < (a0.size : Int)) = True := eq_true (qd_); replace q21 := eq_true q21))
              go_ret
              exact ⟨by first | rfl | (simp; done) | (simp [*]; done), by repeat (first | exact Drawn0.refl _ | apply Drawn0.step)⟩
            ·rw [if_neg c20] at H
             exact absurd H (by simp)
           ·rw [if_neg c19] at H
            have c19b0 : ((bt a0 5) == 58) = false := beq_eq_false_iff_ne.mpr c19
            have c19b1 : ((bt a0 5) != 58) = true := bne_iff_ne.mpr c19
            obtain rfl := Option.some.inj H
            go_wp2_with (first | ((with_reducible refine gate_callee (f := 29) rfl ?_); refine goesL_ (some 23) rfl rfl Tryd.func29 (by kernel_rfl) rfl #[.string (a0.extract 0 2), .int .i64 2, .int .i64 2] rfl qa_ ?_; (with_reducible refine (letterboxref11_digits.calls kj3 (a0.extract 0 2) 2 2 t265 _ A10.out).mono ?_); rintro e w' ⟨rfl, ⟨nd, rfl⟩⟩; refine ⟨_, rfl, ?_⟩) | ((with_reducible refine gate_callee (f := 29) rfl ?_); refine goesL_ (some 26) rfl rfl Tryd.func29 (by kernel_rfl) rfl #[.string (a0.extract 3 5), .int .i64 2, .int .i64 2] rfl qa_ ?_; (with_reducible refine (letterboxref11_digits.calls kj3 (a0.extract 3 5) 2 2 t266 _ A13.out).mono ?_); rintro e w' ⟨rfl, ⟨nd, rfl⟩⟩; refine ⟨_, rfl, ?_⟩) | ((with_reducible refine gate_callee (f := 29) rfl ?_); refine goesL_ (some 32) rfl rfl Tryd.func29 (by kernel_rfl) rfl #[.string (a0.extract 6 a0.size), .int .i64 2, .int .i64 2] rfl qa_ ?_; (with_reducible refine (letterboxref11_digits.calls kj3 (a0.extract 6 a0.size) 2 2 t267 _ A16.out).mono ?_); rintro e w' ⟨rfl, ⟨nd, rfl⟩⟩; refine ⟨_, rfl, ?_⟩; have p18 : 0 ≤ (5 : Int) := (by omega); have q18 : 5 < a0.size := (by have : (5 : Int) < (a0.size : Int) := qd_; omega); have hx18 : ∀ h : 5 < a0.size, ((a0[5]'h).toNat : Int) = bt a0 5 := bt_at a0 5; clear p18; have qi18 : (5 < (a0.size : Int)) = True := eq_true (qd_); replace q18 := eq_true q18))
            go_ret
            exact ⟨by first | rfl | (simp; done) | (simp [*]; done), by repeat (first | exact Drawn0.refl _ | apply Drawn0.step)⟩
          ·rw [if_neg c17] at H
           exact absurd H (by simp)
         ·rw [if_neg c15] at H
          exact absurd H (by simp)
        ·rw [if_neg c14] at H
         have c14b0 : ((a0.size : Int) == 8) = false := beq_eq_false_iff_ne.mpr c14
         have c14b1 : ((a0.size : Int) != 8) = true := bne_iff_ne.mpr c14
         by_cases c29 : 2 < (a0.size : Int)
         ·rw [if_pos c29] at H
          have c29b0 : decide (2 < (a0.size : Int)) = true := decide_eq_true c29
          have c29b1 : decide (2 < a0.size) = true := decide_eq_true (by omega)
          clear c29
          by_cases c31 : (bt a0 2) = 58
          ·rw [if_pos c31] at H
           have c31b0 : ((bt a0 2) == 58) = true := beq_iff_eq.mpr c31
           have c31b1 : ((bt a0 2) != 58) = false := bne_eq_false_iff_eq.mpr c31
           clear c31
           by_cases c32 : t265 < 0
           ·rw [if_pos c32] at H
            have c32b0 : decide (t265 < 0) = true := decide_eq_true c32
            clear c32
            obtain rfl := Option.some.inj H
            go_wp2_with (first | ((with_reducible refine gate_callee (f := 29) rfl ?_); refine goesL_ (some 23) rfl rfl Tryd.func29 (by kernel_rfl) rfl #[.string (a0.extract 0 2), .int .i64 2, .int .i64 2] rfl qa_ ?_; (with_reducible refine (letterboxref11_digits.calls kj3 (a0.extract 0 2) 2 2 t265 _ A10.out).mono ?_); rintro e w' ⟨rfl, ⟨nd, rfl⟩⟩; refine ⟨_, rfl, ?_⟩) | ((with_reducible refine gate_callee (f := 29) rfl ?_); refine goesL_ (some 26) rfl rfl Tryd.func29 (by kernel_rfl) rfl #[.string (a0.extract 3 5), .int .i64 2, .int .i64 2] rfl qa_ ?_; (with_reducible refine (letterboxref11_digits.calls kj3 (a0.extract 3 5) 2 2 t266 _ A13.out).mono ?_); rintro e w' ⟨rfl, ⟨nd, rfl⟩⟩; refine ⟨_, rfl, ?_⟩; have p30 : 0 ≤ (2 : Int) := (by omega); have q30 : 2 < a0.size := (by have : (2 : Int) < (a0.size : Int) := qd_; omega); have hx30 : ∀ h : 2 < a0.size, ((a0[2]'h).toNat : Int) = bt a0 2 := bt_at a0 2; clear p30; have qi30 : (2 < (a0.size : Int)) = True := eq_true (qd_); replace q30 := eq_true q30))
            go_ret
            exact ⟨by first | rfl | (simp; done) | (simp [*]; done), by repeat (first | exact Drawn0.refl _ | apply Drawn0.step)⟩
           ·rw [if_neg c32] at H
            have c32b0 : decide (t265 < 0) = false := decide_eq_false c32
            clear c32
            by_cases c33 : t265 > 23
            ·rw [if_pos c33] at H
             have c33b0 : decide (23 < t265) = true := decide_eq_true c33
             clear c33
             obtain rfl := Option.some.inj H
             go_wp2_with (first | ((with_reducible refine gate_callee (f := 29) rfl ?_); refine goesL_ (some 23) rfl rfl Tryd.func29 (by kernel_rfl) rfl #[.string (a0.extract 0 2), .int .i64 2, .int .i64 2] rfl qa_ ?_; (with_reducible refine (letterboxref11_digits.calls kj3 (a0.extract 0 2) 2 2 t265 _ A10.out).mono ?_); rintro e w' ⟨rfl, ⟨nd, rfl⟩⟩; refine ⟨_, rfl, ?_⟩) | ((with_reducible refine gate_callee (f := 29) rfl ?_); refine goesL_ (some 26) rfl rfl Tryd.func29 (by kernel_rfl) rfl #[.string (a0.extract 3 5), .int .i64 2, .int .i64 2] rfl qa_ ?_; (with_reducible refine (letterboxref11_digits.calls kj3 (a0.extract 3 5) 2 2 t266 _ A13.out).mono ?_); rintro e w' ⟨rfl, ⟨nd, rfl⟩⟩; refine ⟨_, rfl, ?_⟩; have p30 : 0 ≤ (2 : Int) := (by omega); have q30 : 2 < a0.size := (by have : (2 : Int) < (a0.size : Int) := qd_; omega); have hx30 : ∀ h : 2 < a0.size, ((a0[2]'h).toNat : Int) = bt a0 2 := bt_at a0 2; clear p30; have qi30 : (2 < (a0.size : Int)) = True := eq_true (qd_); replace q30 := eq_true q30))
             go_ret
             exact ⟨by first | rfl | (simp; done) | (simp [*]; done), by repeat (first | exact Drawn0.refl _ | apply Drawn0.step)⟩
            ·rw [if_neg c33] at H
             have c33b0 : decide (23 < t265) = false := decide_eq_false c33
             clear c33
             by_cases c34 : t266 < 0
             ·rw [if_pos c34] at H
              have c34b0 : decide (t266 < 0) = true := decide_eq_true c34
              clear c34
              obtain rfl := Option.some.inj H
              go_wp2_with (first | ((with_reducible refine gate_callee (f := 29) rfl ?_); refine goesL_ (some 23) rfl rfl Tryd.func29 (by kernel_rfl) rfl #[.string (a0.extract 0 2), .int .i64 2, .int .i64 2] rfl qa_ ?_; (with_reducible refine (letterboxref11_digits.calls kj3 (a0.extract 0 2) 2 2 t265 _ A10.out).mono ?_); rintro e w' ⟨rfl, ⟨nd, rfl⟩⟩; refine ⟨_, rfl, ?_⟩) | ((with_reducible refine gate_callee (f := 29) rfl ?_); refine goesL_ (some 26) rfl rfl Tryd.func29 (by kernel_rfl) rfl #[.string (a0.extract 3 5), .int .i64 2, .int .i64 2] rfl qa_ ?_; (with_reducible refine (letterboxref11_digits.calls kj3 (a0.extract 3 5) 2 2 t266 _ A13.out).mono ?_); rintro e w' ⟨rfl, ⟨nd, rfl⟩⟩; refine ⟨_, rfl, ?_⟩; have p30 : 0 ≤ (2 : Int) := (by omega); have q30 : 2 < a0.size := (by have : (2 : Int) < (a0.size : Int) := qd_; omega); have hx30 : ∀ h : 2 < a0.size, ((a0[2]'h).toNat : Int) = bt a0 2 := bt_at a0 2; clear p30; have qi30 : (2 < (a0.size : Int)) = True := eq_true (qd_); replace q30 := eq_true q30))
              go_ret
              exact ⟨by first | rfl | (simp; done) | (simp [*]; done), by repeat (first | exact Drawn0.refl _ | apply Drawn0.step)⟩
             ·rw [if_neg c34] at H
              have c34b0 : decide (t266 < 0) = false := decide_eq_false c34
              clear c34
              by_cases c35 : t266 > 59
              ·rw [if_pos c35] at H
               have c35b0 : decide (59 < t266) = true := decide_eq_true c35
               clear c35
               obtain rfl := Option.some.inj H
               go_wp2_with (first | ((with_reducible refine gate_callee (f := 29) rfl ?_); refine goesL_ (some 23) rfl rfl Tryd.func29 (by kernel_rfl) rfl #[.string (a0.extract 0 2), .int .i64 2, .int .i64 2] rfl qa_ ?_; (with_reducible refine (letterboxref11_digits.calls kj3 (a0.extract 0 2) 2 2 t265 _ A10.out).mono ?_); rintro e w' ⟨rfl, ⟨nd, rfl⟩⟩; refine ⟨_, rfl, ?_⟩) | ((with_reducible refine gate_callee (f := 29) rfl ?_); refine goesL_ (some 26) rfl rfl Tryd.func29 (by kernel_rfl) rfl #[.string (a0.extract 3 5), .int .i64 2, .int .i64 2] rfl qa_ ?_; (with_reducible refine (letterboxref11_digits.calls kj3 (a0.extract 3 5) 2 2 t266 _ A13.out).mono ?_); rintro e w' ⟨rfl, ⟨nd, rfl⟩⟩; refine ⟨_, rfl, ?_⟩; have p30 : 0 ≤ (2 : Int) := (by omega); have q30 : 2 < a0.size := (by have : (2 : Int) < (a0.size : Int) := qd_; omega); have hx30 : ∀ h : 2 < a0.size, ((a0[2]'h).toNat : Int) = bt a0 2 := bt_at a0 2; clear p30; have qi30 : (2 < (a0.size : Int)) = True := eq_true (qd_); replace q30 := eq_true q30))
               go_ret
               exact ⟨by first | rfl | (simp; done) | (simp [*]; done), by repeat (first | exact Drawn0.refl _ | apply Drawn0.step)⟩
              ·rw [if_neg c35] at H
               have c35b0 : decide (59 < t266) = false := decide_eq_false c35
               clear c35
               by_cases c36 : 0 < 0
               ·exact absurd c36 (by decide)
               ·rw [if_neg c36] at H
                have c36b0 : decide (0 < 0) = false := decide_eq_false c36
                clear c36
                by_cases c37 : 0 > a2
                ·rw [if_pos c37] at H
                 have c37b0 : decide (a2 < 0) = true := decide_eq_true c37
                 clear c37
                 obtain rfl := Option.some.inj H
                 go_wp2_with (first | ((with_reducible refine gate_callee (f := 29) rfl ?_); refine goesL_ (some 23) rfl rfl Tryd.func29 (by kernel_rfl) rfl #[.string (a0.extract 0 2), .int .i64 2, .int .i64 2] rfl qa_ ?_; (with_reducible refine (letterboxref11_digits.calls kj3 (a0.extract 0 2) 2 2 t265 _ A10.out).mono ?_); rintro e w' ⟨rfl, ⟨nd, rfl⟩⟩; refine ⟨_, rfl, ?_⟩) | ((with_reducible refine gate_callee (f := 29) rfl ?_); refine goesL_ (some 26) rfl rfl Tryd.func29 (by kernel_rfl) rfl #[.string (a0.extract 3 5), .int .i64 2, .int .i64 2] rfl qa_ ?_; (with_reducible refine (letterboxref11_digits.calls kj3 (a0.extract 3 5) 2 2 t266 _ A13.out).mono ?_); rintro e w' ⟨rfl, ⟨nd, rfl⟩⟩; refine ⟨_, rfl, ?_⟩; have p30 : 0 ≤ (2 : Int) := (by omega); have q30 : 2 < a0.size := (by have : (2 : Int) < (a0.size : Int) := qd_; omega); have hx30 : ∀ h : 2 < a0.size, ((a0[2]'h).toNat : Int) = bt a0 2 := bt_at a0 2; clear p30; have qi30 : (2 < (a0.size : Int)) = True := eq_true (qd_); replace q30 := eq_true q30))
                 go_ret
                 exact ⟨by first | rfl | (simp; done) | (simp [*]; done), by repeat (first | exact Drawn0.refl _ | apply Drawn0.step)⟩
                ·rw [if_neg c37] at H
                 have c37b0 : decide (a2 < 0) = false := decide_eq_false c37
                 clear c37
                 obtain rfl := Option.some.inj H
                 go_wp2_with (first | ((with_reducible refine gate_callee (f := 29) rfl ?_); refine goesL_ (some 23) rfl rfl Tryd.func29 (by kernel_rfl) rfl #[.string (a0.extract 0 2), .int .i64 2, .int .i64 2] rfl qa_ ?_; (with_reducible refine (letterboxref11_digits.calls kj3 (a0.extract 0 2) 2 2 t265 _ A10.out).mono ?_); rintro e w' ⟨rfl, ⟨nd, rfl⟩⟩; refine ⟨_, rfl, ?_⟩) | ((with_reducible refine gate_callee (f := 29) rfl ?_); refine goesL_ (some 26) rfl rfl Tryd.func29 (by kernel_rfl) rfl #[.string (a0.extract 3 5), .int .i64 2, .int .i64 2] rfl qa_ ?_; (with_reducible refine (letterboxref11_digits.calls kj3 (a0.extract 3 5) 2 2 t266 _ A13.out).mono ?_); rintro e w' ⟨rfl, ⟨nd, rfl⟩⟩; refine ⟨_, rfl, ?_⟩; have p30 : 0 ≤ (2 : Int) := (by omega); have q30 : 2 < a0.size := (by have : (2 : Int) < (a0.size : Int) := qd_; omega); have hx30 : ∀ h : 2 < a0.size, ((a0[2]'h).toNat : Int) = bt a0 2 := bt_at a0 2; clear p30; have qi30 : (2 < (a0.size : Int)) = True := eq_true (qd_); replace q30 := eq_true q30))
                 go_ret
                 exact ⟨by first | rfl | (simp; done) | (simp [*]; done), by repeat (first | exact Drawn0.refl _ | apply Drawn0.step)⟩
          ·rw [if_neg c31] at H
           have c31b0 : ((bt a0 2) == 58) = false := beq_eq_false_iff_ne.mpr c31
           have c31b1 : ((bt a0 2) != 58) = true := bne_iff_ne.mpr c31
           obtain rfl := Option.some.inj H
           go_wp2_with (first | ((with_reducible refine gate_callee (f := 29) rfl ?_); refine goesL_ (some 23) rfl rfl Tryd.func29 (by kernel_rfl) rfl #[.string (a0.extract 0 2), .int .i64 2, .int .i64 2] rfl qa_ ?_; (with_reducible refine (letterboxref11_digits.calls kj3 (a0.extract 0 2) 2 2 t265 _ A10.out).mono ?_); rintro e w' ⟨rfl, ⟨nd, rfl⟩⟩; refine ⟨_, rfl, ?_⟩) | ((with_reducible refine gate_callee (f := 29) rfl ?_); refine goesL_ (some 26) rfl rfl Tryd.func29 (by kernel_rfl) rfl #[.string (a0.extract 3 5), .int .i64 2, .int .i64 2] rfl qa_ ?_; (with_reducible refine (letterboxref11_digits.calls kj3 (a0.extract 3 5) 2 2 t266 _ A13.out).mono ?_); rintro e w' ⟨rfl, ⟨nd, rfl⟩⟩; refine ⟨_, rfl, ?_⟩; have p30 : 0 ≤ (2 : Int) := (by omega); have q30 : 2 < a0.size := (by have : (2 : Int) < (a0.size : Int) := qd_; omega); have hx30 : ∀ h : 2 < a0.size, ((a0[2]'h).toNat : Int) = bt a0 2 := bt_at a0 2; clear p30; have qi30 : (2 < (a0.size : Int)) = True := eq_true (qd_); replace q30 := eq_true q30))
           go_ret
           exact ⟨by first | rfl | (simp; done) | (simp [*]; done), by repeat (first | exact Drawn0.refl _ | apply Drawn0.step)⟩
         ·rw [if_neg c29] at H
          exact absurd H (by simp)
       ·rw [if_neg c12] at H
        exact absurd H (by simp)
      ·rw [if_neg c11] at H
       exact absurd H (by simp)
     ·rw [if_neg c9] at H
      exact absurd H (by simp)
    ·rw [if_neg c8] at H
     exact absurd H (by simp)

/-! ### letterboxref11_leap: function 55 -/
def letterboxref11_leap.f (a0 : Int) : Option (Bool) := if (Int.tmod a0 400) = 0 then (some true) else (if (Int.tmod a0 4) = 0 then (some ((Int.tmod a0 100) != 0)) else (some false))
set_option maxHeartbeats 8000000 in
set_option maxRecDepth 100000 in
theorem letterboxref11_leap.calls (a0 : Int) (r : Bool) (w : World) (h : letterboxref11_leap.f a0 = some r) :
  Calls Tryd.prog 55 #[.int .i64 a0] w fun e w' => e = .returned (.bool r) ∧ Drawn0 w w' := by
 have H : (if (Int.tmod a0 400) = 0 then (some true) else (if (Int.tmod a0 4) = 0 then (some ((Int.tmod a0 100) != 0)) else (some false))) = some r := h
 clear h
 by_cases c2 : (Int.tmod a0 400) = 0
 ·rw [if_pos c2] at H
  have c2b0 : ((Int.tmod a0 400) == 0) = true := beq_iff_eq.mpr c2
  have c2b1 : ((Int.tmod a0 400) != 0) = false := bne_eq_false_iff_eq.mpr c2
  clear c2
  obtain rfl := Option.some.inj H
  go_enter Tryd.func55, Tryd.ntmps55
  go_wp2
  go_ret
  exact ⟨by first | rfl | (simp; done) | (simp [*]; done), by repeat (first | exact Drawn0.refl _ | apply Drawn0.step)⟩
 ·rw [if_neg c2] at H
  have c2b0 : ((Int.tmod a0 400) == 0) = false := beq_eq_false_iff_ne.mpr c2
  have c2b1 : ((Int.tmod a0 400) != 0) = true := bne_iff_ne.mpr c2
  by_cases c3 : (Int.tmod a0 4) = 0
  ·rw [if_pos c3] at H
   have c3b0 : ((Int.tmod a0 4) == 0) = true := beq_iff_eq.mpr c3
   have c3b1 : ((Int.tmod a0 4) != 0) = false := bne_eq_false_iff_eq.mpr c3
   clear c3
   obtain rfl := Option.some.inj H
   go_enter Tryd.func55, Tryd.ntmps55
   go_wp2
   go_ret
   exact ⟨by first | rfl | (simp; done) | (simp [*]; done), by repeat (first | exact Drawn0.refl _ | apply Drawn0.step)⟩
  ·rw [if_neg c3] at H
   have c3b0 : ((Int.tmod a0 4) == 0) = false := beq_eq_false_iff_ne.mpr c3
   have c3b1 : ((Int.tmod a0 4) != 0) = true := bne_iff_ne.mpr c3
   obtain rfl := Option.some.inj H
   go_enter Tryd.func55, Tryd.ntmps55
   go_wp2
   go_ret
   exact ⟨by first | rfl | (simp; done) | (simp [*]; done), by repeat (first | exact Drawn0.refl _ | apply Drawn0.step)⟩

end Go.Proofs.YtmbiggcapakjjaaDoor.P
