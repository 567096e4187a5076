-- Written by a program of this session (wip/tools/mk.sh) for this claim: it runs the kit's print with contracts of our own. Lean checks it.
import Derived.Test.YtbjbagocnnffaaaDoorPx0
import Derived.Test.YtbjbagocnnffaaaDoorWRepsOne
import Derived.Test.YtbjbagocnnffaaaDoorZStr
import Derived.Test.YtbjbagocnnffaaaDoorPx3
namespace Go.Proofs.YtbjbagocnnffaaaDoor.P
open Go.RowKit Go.Proofs.YtbjbagocnnffaaaDoorW.PrintWords Go.Proofs.YtbjbagocnnffaaaDoorW.PrintLast Go.Proofs.YtbjbagocnnffaaaDoorW.PrintMore
attribute [-simp] Int.tmod_tmod_of_dvd
attribute [local go_sem] max2_int min2_int max_two min_two max_three min_three max_four min_four   -- for this text's walks alone
set_option linter.unusedVariables false
set_option linter.unusedSimpArgs false

/-! ### chars_Number: function 43 -/
mutual
def chars_Number.j0 : Nat → ByteArray → Bool → Option (Int × Bool)
 | 0, _, _ => none
 | k + 1, x0, x23 => if x23 = true then (some (0, false)) else (chars_Number.l0 k x0 0 (x0.size : Int) 0)
def chars_Number.l0 : Nat → ByteArray → Int → Int → Int → Option (Int × Bool)
 | 0, _, _, _, _ => none
 | k + 1, x0, x4, x25, x26 => if x26 < x25 then (if 0 ≤ x26 then (if x26 < (x0.size : Int) then (if (bt x0 x26) < 48 then (some (0, false)) else (if (bt x0 x26) > 57 then (some (0, false)) else (chars_Number.l0 k x0 (wrap64 ((wrap64 (10 * x4)) + (((bt x0 x26) - 48) % 256))) x25 (wrap64 (x26 + 1))))) else (none)) else (none)) else (if x4 > 4294967295 then (some (0, false)) else (some (x4, true)))
end
def chars_Number.f (k : Nat) (a0 : ByteArray) : Option (Int × Bool) := if (a0.size : Int) < 1 then (chars_Number.j0 k a0 true) else (if (a0.size : Int) > 10 then (chars_Number.j0 k a0 true) else (if (a0.size : Int) > 1 then (if 0 < (a0.size : Int) then (chars_Number.j0 k a0 ((bt a0 0) == 48)) else (none)) else (chars_Number.j0 k a0 false)))
theorem chars_Number.mono_l : ∀ k, (∀ y0 y1, LeO (chars_Number.j0 k y0 y1) (chars_Number.j0 (k + 1) y0 y1)) ∧ (∀ y0 y1 y2 y3, LeO (chars_Number.l0 k y0 y1 y2 y3) (chars_Number.l0 (k + 1) y0 y1 y2 y3))
 | 0 => ⟨fun _ _ r h => by simp [chars_Number.j0] at h, fun _ _ _ _ r h => by simp [chars_Number.l0] at h⟩
 | k + 1 => by
  obtain ⟨ih0, ih1⟩ := chars_Number.mono_l k
  refine ⟨?_, ?_⟩
  ·intro y0 y1
   unfold chars_Number.j0
   repeat' first
   | (with_reducible exact ih0 _ _)
   | (with_reducible exact ih1 _ _ _ _)
   | (with_reducible exact LeO.refl _)
   | (with_reducible exact LeO.none _)
   | (with_reducible refine LeO.ite ?_ ?_)
   | (with_reducible refine LeO.bind ?_ (fun _ => ?_))
   | exact ih0 _ _
   | exact ih1 _ _ _ _
   | exact LeO.none _
   | refine LeO.ite ?_ ?_
   | refine LeO.bind ?_ (fun _ => ?_)
  ·intro y0 y1 y2 y3
   unfold chars_Number.l0
   repeat' first
   | (with_reducible exact ih0 _ _)
   | (with_reducible exact ih1 _ _ _ _)
   | (with_reducible exact LeO.refl _)
   | (with_reducible exact LeO.none _)
   | (with_reducible refine LeO.ite ?_ ?_)
   | (with_reducible refine LeO.bind ?_ (fun _ => ?_))
   | exact ih0 _ _
   | exact ih1 _ _ _ _
   | exact LeO.none _
   | refine LeO.ite ?_ ?_
   | refine LeO.bind ?_ (fun _ => ?_)
theorem chars_Number.mono : ∀ a0 k, LeO (chars_Number.f k a0) (chars_Number.f (k + 1) a0) := by
 intro a0 k
 obtain ⟨ih0, ih1⟩ := chars_Number.mono_l k
 unfold chars_Number.f
 repeat' first
   | (with_reducible exact ih0 _ _)
   | (with_reducible exact ih1 _ _ _ _)
   | (with_reducible exact LeO.refl _)
   | (with_reducible exact LeO.none _)
   | (with_reducible refine LeO.ite ?_ ?_)
   | (with_reducible refine LeO.bind ?_ (fun _ => ?_))
   | exact ih0 _ _
   | exact ih1 _ _ _ _
   | exact LeO.none _
   | refine LeO.ite ?_ ?_
   | refine LeO.bind ?_ (fun _ => ?_)
set_option maxHeartbeats 8000000 in
set_option maxRecDepth 100000 in
theorem chars_Number.calls (k : Nat) (a0 : ByteArray) (r1 : Int) (r2 : Bool) (w : World) (h : chars_Number.f k a0 = some (r1, r2)) :
  Calls Tryd.prog 43 #[.string a0] w fun e w' => e = .returned (.tuple #[.int .i64 r1, .bool r2]) ∧ Drawn0 w w' := by
 have H : (if (a0.size : Int) < 1 then (chars_Number.j0 k a0 true) else (if (a0.size : Int) > 10 then (chars_Number.j0 k a0 true) else (if (a0.size : Int) > 1 then (if 0 < (a0.size : Int) then (chars_Number.j0 k a0 ((bt a0 0) == 48)) else (none)) else (chars_Number.j0 k a0 false)))) = some (r1, r2) := h
 clear h
 have HC2 := Aside0.mk H
 clear H
 go_enter Tryd.func43, Tryd.ntmps43
 go_upto_region 1 with (fail)
 go_cut [23] (fun v23 wc => ∃ (kq : Nat) (x23_1 : Bool), v23 = .bool x23_1 ∧ Aside0 (chars_Number.j0 kq a0 x23_1 = some (r1, r2)) ∧ Aside0 (kq ≤ k) ∧ Drawn0 w wc)
 case first =>
  have H := HC2.out
  clear HC2
  by_cases c3 : (a0.size : Int) < 1
  ·rw [if_pos c3] at H
   have c3b0 : decide ((a0.size : Int) < 1) = true := decide_eq_true c3
   have c3b1 : decide (a0.size < 1) = true := decide_eq_true (by omega)
   clear c3
   (first | rw [c3b0] | (simp only [i64_w, i32_w]; rw [c3b0]) | skip)
   have H' := Aside0.mk H
   clear H
   go_wp2
   go_meet
   case rel => exact ⟨_, (true), qr_, H', ⟨by first | omega | exact Nat.le_refl _⟩, by repeat (first | exact Drawn0.refl _ | apply Drawn0.step)⟩
  ·rw [if_neg c3] at H
   have c3b0 : decide ((a0.size : Int) < 1) = false := decide_eq_false c3
   have c3b1 : decide (a0.size < 1) = false := decide_eq_false (by omega)
   clear c3
   (first | rw [c3b0] | (simp only [i64_w, i32_w]; rw [c3b0]) | skip)
   by_cases c4 : (a0.size : Int) > 10
   ·rw [if_pos c4] at H
    have c4b0 : decide (10 < (a0.size : Int)) = true := decide_eq_true c4
    have c4b1 : decide (10 < a0.size) = true := decide_eq_true (by omega)
    clear c4
    have H' := Aside0.mk H
    clear H
    go_wp2
    go_meet
    case rel => exact ⟨_, (true), qr_, H', ⟨by first | omega | exact Nat.le_refl _⟩, by repeat (first | exact Drawn0.refl _ | apply Drawn0.step)⟩
   ·rw [if_neg c4] at H
    have c4b0 : decide (10 < (a0.size : Int)) = false := decide_eq_false c4
    have c4b1 : decide (10 < a0.size) = false := decide_eq_false (by omega)
    clear c4
    by_cases c5 : (a0.size : Int) > 1
    ·rw [if_pos c5] at H
     have c5b0 : decide (1 < (a0.size : Int)) = true := decide_eq_true c5
     have c5b1 : decide (1 < a0.size) = true := decide_eq_true (by omega)
     clear c5
     by_cases c6 : 0 < (a0.size : Int)
     ·rw [if_pos c6] at H
      have c6b0 : decide (0 < (a0.size : Int)) = true := decide_eq_true c6
      have c6b1 : decide (0 < a0.size) = true := decide_eq_true (by omega)
      clear c6
      have H' := Aside0.mk H
      clear H
      have p7 : 0 ≤ (0 : Int) := (by omega)
      have q7 : 0 < a0.size := (by have : (0 : Int) < (a0.size : Int) := qd_; omega)
      have hx7 : ∀ h : 0 < a0.size, ((a0[0]'h).toNat : Int) = bt a0 0 := bt_at a0 0
      clear p7
      have qi7 : (0 < (a0.size : Int)) = True := eq_true (qd_)
      replace q7 := eq_true q7
      go_wp2
      go_meet
      case rel => exact ⟨_, (((bt a0 0) == 48)), qr_, H', ⟨by first | omega | exact Nat.le_refl _⟩, by repeat (first | exact Drawn0.refl _ | apply Drawn0.step)⟩
     ·rw [if_neg c6] at H
      exact absurd H (by simp)
    ·rw [if_neg c5] at H
     have c5b0 : decide (1 < (a0.size : Int)) = false := decide_eq_false c5
     have c5b1 : decide (1 < a0.size) = false := decide_eq_false (by omega)
     clear c5
     have H' := Aside0.mk H
     clear H
     go_wp2
     go_meet
     case rel => exact ⟨_, (false), qr_, H', ⟨by first | omega | exact Nat.le_refl _⟩, by repeat (first | exact Drawn0.refl _ | apply Drawn0.step)⟩
 case rest =>
  clear HC2
  obtain ⟨kq, x23_1, rfl, HA, HJ1, ⟨mc1, rfl⟩⟩ := hcut
  cases kq with
  | zero => exact absurd HA.out (by simp [chars_Number.j0])
  | succ kj1 =>
   have H := HA.out
   clear HA
   simp only [chars_Number.j0] at H
   by_cases c8 : x23_1 = true
   ·subst c8
    have H1 : (some (0, false)) = some (r1, r2) := by rw [if_pos rfl] at H; exact H
    clear H
    have H := H1
    clear H1
    simp only [Option.some.injEq, Prod.mk.injEq] at H
    obtain ⟨rfl, rfl⟩ := H
    go_wp2
    go_ret2
    exact ⟨by first | rfl | (simp; done) | (simp [*]; done), by repeat (first | exact Drawn0.refl _ | apply Drawn0.step)⟩
   ·replace c8 := Bool.eq_false_iff.mpr c8
    subst c8
    have H1 : (chars_Number.l0 kj1 a0 0 (a0.size : Int) 0) = some (r1, r2) := by rw [if_neg (show ¬ (false = true) by decide)] at H; exact H
    clear H
    have H := H1
    clear H1
    have H' := Aside0.mk H
    clear H
    go_wp2
    go_loopg [4, 26] kj1 (fun kq v4 v26 w' => ∃ (x4_2 : Int) (x26_2 : Int), v4 = .int .i64 x4_2 ∧ v26 = .int .i64 x26_2 ∧ Aside0 (chars_Number.l0 kq a0 x4_2 (a0.size : Int) x26_2 = some (r1, r2)) ∧ Aside0 (kq ≤ kj1) ∧ Drawn0 w w')
    case atStart => exact ⟨(0), (0), qr_, qr_, H', ⟨Nat.le_refl _⟩, by repeat (first | exact Drawn0.refl _ | apply Drawn0.step)⟩
    case round =>
     clear H'
     (try clear c8)
     obtain ⟨x4_2, x26_2, rfl, rfl, HA, HK2, ⟨m2, rfl⟩⟩ := hrel
     cases gk with
     | zero => exact absurd HA.out (by simp [chars_Number.l0])
     | succ k2 =>
      have H := HA.out
      clear HA
      simp only [chars_Number.l0] at H
      by_cases c9 : x26_2 < (a0.size : Int)
      ·rw [if_pos c9] at H
       have c9b0 : decide (x26_2 < (a0.size : Int)) = true := decide_eq_true c9
       clear c9
       by_cases c10 : 0 ≤ x26_2
       ·rw [if_pos c10] at H
        have c10b0 : decide (0 ≤ x26_2) = true := decide_eq_true c10
        clear c10
        by_cases c11 : x26_2 < (a0.size : Int)
        ·rw [if_pos c11] at H
         have c11b0 : decide (x26_2 < (a0.size : Int)) = true := decide_eq_true c11
         clear c11
         by_cases c13 : (bt a0 x26_2) < 48
         ·rw [if_pos c13] at H
          have c13b0 : decide ((bt a0 x26_2) < 48) = true := decide_eq_true c13
          clear c13
          simp only [Option.some.injEq, Prod.mk.injEq] at H
          obtain ⟨rfl, rfl⟩ := H
          have p12 : 0 ≤ (x26_2 : Int) := qd_
          have q12 : x26_2 < (a0.size : Int) := qd_
          have hx12 := bt_at a0 x26_2
          replace p12 := eq_true p12
          replace q12 := eq_true q12
          go_wp2
          go_ret2
          exact ⟨by first | rfl | (simp; done) | (simp [*]; done), by repeat (first | exact Drawn0.refl _ | apply Drawn0.step)⟩
         ·rw [if_neg c13] at H
          have c13b0 : decide ((bt a0 x26_2) < 48) = false := decide_eq_false c13
          clear c13
          by_cases c15 : (bt a0 x26_2) > 57
          ·rw [if_pos c15] at H
           have c15b0 : decide (57 < (bt a0 x26_2)) = true := decide_eq_true c15
           clear c15
           simp only [Option.some.injEq, Prod.mk.injEq] at H
           obtain ⟨rfl, rfl⟩ := H
           have p12 : 0 ≤ (x26_2 : Int) := qd_
           have q12 : x26_2 < (a0.size : Int) := qd_
           have hx12 := bt_at a0 x26_2
           replace p12 := eq_true p12
           replace q12 := eq_true q12
           have p14 : 0 ≤ (x26_2 : Int) := qd_
           have q14 : x26_2 < (a0.size : Int) := qd_
           have hx14 := bt_at a0 x26_2
           replace p14 := eq_true p14
           replace q14 := eq_true q14
           go_wp2
           go_ret2
           exact ⟨by first | rfl | (simp; done) | (simp [*]; done), by repeat (first | exact Drawn0.refl _ | apply Drawn0.step)⟩
          ·rw [if_neg c15] at H
           have c15b0 : decide (57 < (bt a0 x26_2)) = false := decide_eq_false c15
           clear c15
           have H' := Aside0.mk H
           clear H
           have p12 : 0 ≤ (x26_2 : Int) := qd_
           have q12 : x26_2 < (a0.size : Int) := qd_
           have hx12 := bt_at a0 x26_2
           replace p12 := eq_true p12
           replace q12 := eq_true q12
           have p14 : 0 ≤ (x26_2 : Int) := qd_
           have q14 : x26_2 < (a0.size : Int) := qd_
           have hx14 := bt_at a0 x26_2
           replace p14 := eq_true p14
           replace q14 := eq_true q14
           have p16 : 0 ≤ (x26_2 : Int) := qd_
           have q16 : x26_2 < (a0.size : Int) := qd_
           have hx16 := bt_at a0 x26_2
           replace p16 := eq_true p16
           replace q16 := eq_true q16
           go_wp2
           go_roundg k2
           case measure => have := HJ1.out; have := HK2.out; omega
           case rel => exact ⟨(wrap64 ((wrap64 (10 * x4_2)) + (((bt a0 x26_2) - 48) % 256))), (wrap64 (x26_2 + 1)), qr_, qr_, H', ⟨by have := HJ1.out; have := HK2.out; omega⟩, by repeat (first | exact Drawn0.refl _ | apply Drawn0.step)⟩
        ·rw [if_neg c11] at H
         exact absurd H (by simp)
       ·rw [if_neg c10] at H
        exact absurd H (by simp)
      ·rw [if_neg c9] at H
       have c9b0 : decide (x26_2 < (a0.size : Int)) = false := decide_eq_false c9
       clear c9
       by_cases c17 : x4_2 > 4294967295
       ·rw [if_pos c17] at H
        have c17b0 : decide (4294967295 < x4_2) = true := decide_eq_true c17
        clear c17
        simp only [Option.some.injEq, Prod.mk.injEq] at H
        obtain ⟨rfl, rfl⟩ := H
        go_wp2
        go_ret2
        exact ⟨by first | rfl | (simp; done) | (simp [*]; done), by repeat (first | exact Drawn0.refl _ | apply Drawn0.step)⟩
       ·rw [if_neg c17] at H
        have c17b0 : decide (4294967295 < x4_2) = false := decide_eq_false c17
        clear c17
        simp only [Option.some.injEq, Prod.mk.injEq] at H
        obtain ⟨rfl, rfl⟩ := H
        go_wp2
        go_ret2
        exact ⟨by first | rfl | (simp; done) | (simp [*]; done), by repeat (first | exact Drawn0.refl _ | apply Drawn0.step)⟩

/-! ### section_reader_number: function 22 -/
def section_reader_number.f (k : Nat) (s0_0 : ByteArray) (s0_1 : Bool) : Option (Int × ByteArray × Bool) := (section_reader_run.f s0_0 s0_1 37).bind fun bt120 => ((chars_Number.f k bt120.1).bind fun bt123 => (if bt123.2 = true then (some (bt123.1, bt120.2.1, bt120.2.2)) else (some (bt123.1, bt120.2.1, true))))
theorem section_reader_number.mono : ∀ a0 a1 k, LeO (section_reader_number.f k a0 a1) (section_reader_number.f (k + 1) a0 a1) := by
 intro a0 a1 k
 unfold section_reader_number.f
 repeat' first
   | (with_reducible exact chars_Number.mono _ _)
   | (with_reducible exact LeO.refl _)
   | (with_reducible exact LeO.none _)
   | (with_reducible refine LeO.ite ?_ ?_)
   | (with_reducible refine LeO.bind ?_ (fun _ => ?_))
   | exact chars_Number.mono _ _
   | exact LeO.none _
   | refine LeO.ite ?_ ?_
   | refine LeO.bind ?_ (fun _ => ?_)
set_option maxHeartbeats 8000000 in
set_option maxRecDepth 100000 in
theorem section_reader_number.calls (k : Nat) (g : Nat) (s0_0 : ByteArray) (s0_1 : Bool) (r1 : Int) (r2 : ByteArray) (r3 : Bool) (w0 w : World) (hI : IsS50 w0 w g s0_0 s0_1) (hB : Below w0.heap.size w0 w) (h : section_reader_number.f k s0_0 s0_1 = some (r1, r2, r3)) :
  Calls Tryd.prog 22 #[.pointer (some ⟨g, 0, none⟩)] w fun e w' => e = .returned (.int .i64 r1) ∧ IsS50 w0 w' g r2 r3 ∧ Below w0.heap.size w0 w' ∧ KeepBut w w' g none := by
 have HI0 := Aside0.mk hI
 have HK := Aside0.mk (KeepBut.refl w g none)
 have HL := Aside0.mk hB.size
 clear hI
 have HW0 := Aside0.mk hB.size
 have HB := Aside0.mk hB
 clear hB
 have H : ((section_reader_run.f s0_0 s0_1 37).bind fun bt120 => ((chars_Number.f k bt120.1).bind fun bt123 => (if bt123.2 = true then (some (bt123.1, bt120.2.1, bt120.2.2)) else (some (bt123.1, bt120.2.1, true))))) = some (r1, r2, r3) := h
 clear h
 replace H := Option.bind_eq_some_iff.mp H
 obtain ⟨⟨t120, t121, t122⟩, A20, H⟩ := H
 replace H : ((chars_Number.f k t120).bind fun bt123 => (if bt123.2 = true then (some (bt123.1, t121, t122)) else (some (bt123.1, t121, true)))) = some (r1, r2, r3) := H
 have A2 := Aside0.mk A20
 clear A20
 replace H := Option.bind_eq_some_iff.mp H
 obtain ⟨⟨t123, t124⟩, A30, H⟩ := H
 replace H : (if t124 = true then (some (t123, t121, t122)) else (some (t123, t121, true))) = some (r1, r2, r3) := H
 have A3 := Aside0.mk A30
 clear A30
 by_cases c4 : t124 = true
 ·subst c4
  have H1 : (some (t123, t121, t122)) = some (r1, r2, r3) := by rw [if_pos rfl] at H; exact H
  clear H
  have H := H1
  clear H1
  simp only [Option.some.injEq, Prod.mk.injEq] at H
  obtain ⟨rfl, rfl, rfl⟩ := H
  go_enter Tryd.func22, Tryd.ntmps22
  go_wp2_with (first | ((with_reducible refine gate_callee (f := 38) rfl ?_); refine goesL_ (some 7) rfl rfl Tryd.func38 (by kernel_rfl) rfl #[.pointer (some ⟨g, 0, none⟩), .func (.func 37) #[] #[]] rfl qa_ ?_; (with_reducible refine (section_reader_run.calls g s0_0 s0_1 37 t120 t121 t122 w0 _ ?side1 ?side2 A2.out).mono ?_); (case side1 => repeat (first | (with_reducible first | exact HI0.out | apply IsS50.alloc | apply IsS50.drewN | apply IsS50.drew | apply IsS50.set_0 | apply IsS50.set_1) | exact HI0.out)); (case side2 => repeat (first | (with_reducible first | exact HB.out | apply below_alloc | apply pw_below_drewN | apply below_drew1 | refine below_set ?_ (IsS50.ge HI0.out)) | exact HB.out)); rintro e w5 ⟨rfl, hi, hb, hk⟩; refine ⟨_, rfl, ?_⟩; have n0_ := Aside0.mk (KeepBut.trans (qh_ HK.out) hk (.inl rfl)); have n1_ := Aside0.mk (hb); have n2_ := Aside0.mk (hi); clear HK; clear HB; clear HI0; have HK := n0_; have HB := n1_; have HI0 := n2_; clear n0_ n1_ n2_; (try clear hb); (try clear hb2); (try clear hk); (try clear hi)) | ((with_reducible refine gate_callee (f := 43) rfl ?_); refine goesL_ (some 8) rfl rfl Tryd.func43 (by kernel_rfl) rfl #[.string t120] rfl qa_ ?_; (with_reducible refine (chars_Number.calls k t120 t123 true _ A3.out).mono ?_); rintro e w' ⟨rfl, ⟨nd, rfl⟩⟩; refine ⟨_, rfl, ?_⟩; (try (rw [drewN_self w5]; generalize hq_ : World.drewN w5 _ = w5; have n0_ : Aside0 (IsS50 w0 w5 g t121 t122) := ⟨by rw [← hq_]; exact (by repeat (first | (with_reducible first | exact HI0.out | apply IsS50.alloc | apply IsS50.drewN | apply IsS50.drew | apply IsS50.set_0 | apply IsS50.set_1) | exact HI0.out))⟩; have n1_ : Aside0 (KeepBut w w5 g none) := ⟨by rw [← hq_]; exact (qh_ HK.out)⟩; have n2_ : Aside0 (Below w0.heap.size w0 w5) := ⟨by rw [← hq_]; exact (by repeat (first | (with_reducible first | exact HB.out | apply below_alloc | apply pw_below_drewN | apply below_drew1 | refine below_set ?_ (IsS50.ge HI0.out)) | exact HB.out))⟩; clear HI0 HK HB hq_; have HI0 := n0_; have HK := n1_; have HB := n2_; clear n0_ n1_ n2_; (try have hq0_ := cellS50_0 HI0.out.1); (try have hq1_ := cellS50_1 HI0.out.1); (try have hq2_ := blk_frozen HI0.out.1 0); (try have hq3_ := blk_frozen HI0.out.1 1))); obtain ⟨HGz6, hgz6⟩ := HI0.out; have hcz6_0 := cellS50_0 HGz6; have hcz6_1 := cellS50_1 HGz6; have hfz6_0 := blk_frozen HGz6 0; have hfz6_1 := blk_frozen HGz6 1; clear HGz6 hgz6))
  go_ret
  exact ⟨qw_, by repeat (first | (with_reducible first | exact HI0.out | apply IsS50.alloc | apply IsS50.drewN | apply IsS50.drew | apply IsS50.set_0 | apply IsS50.set_1) | exact HI0.out), by repeat (first | (with_reducible first | exact HB.out | apply below_alloc | apply pw_below_drewN | apply below_drew1 | refine below_set ?_ (IsS50.ge HI0.out)) | exact HB.out), qh_ HK.out⟩
 ·replace c4 := Bool.eq_false_iff.mpr c4
  subst c4
  have H1 : (some (t123, t121, true)) = some (r1, r2, r3) := by rw [if_neg (show ¬ (false = true) by decide)] at H; exact H
  clear H
  have H := H1
  clear H1
  simp only [Option.some.injEq, Prod.mk.injEq] at H
  obtain ⟨rfl, rfl, rfl⟩ := H
  go_enter Tryd.func22, Tryd.ntmps22
  go_wp2_with (first | ((with_reducible refine gate_callee (f := 38) rfl ?_); refine goesL_ (some 7) rfl rfl Tryd.func38 (by kernel_rfl) rfl #[.pointer (some ⟨g, 0, none⟩), .func (.func 37) #[] #[]] rfl qa_ ?_; (with_reducible refine (section_reader_run.calls g s0_0 s0_1 37 t120 t121 t122 w0 _ ?side1 ?side2 A2.out).mono ?_); (case side1 => repeat (first | (with_reducible first | exact HI0.out | apply IsS50.alloc | apply IsS50.drewN | apply IsS50.drew | apply IsS50.set_0 | apply IsS50.set_1) | exact HI0.out)); (case side2 => repeat (first | (with_reducible first | exact HB.out | apply below_alloc | apply pw_below_drewN | apply below_drew1 | refine below_set ?_ (IsS50.ge HI0.out)) | exact HB.out)); rintro e w7 ⟨rfl, hi, hb, hk⟩; refine ⟨_, rfl, ?_⟩; have n0_ := Aside0.mk (KeepBut.trans (qh_ HK.out) hk (.inl rfl)); have n1_ := Aside0.mk (hb); have n2_ := Aside0.mk (hi); clear HK; clear HB; clear HI0; have HK := n0_; have HB := n1_; have HI0 := n2_; clear n0_ n1_ n2_; (try clear hb); (try clear hb2); (try clear hk); (try clear hi)) | ((with_reducible refine gate_callee (f := 43) rfl ?_); refine goesL_ (some 8) rfl rfl Tryd.func43 (by kernel_rfl) rfl #[.string t120] rfl qa_ ?_; (with_reducible refine (chars_Number.calls k t120 t123 false _ A3.out).mono ?_); rintro e w' ⟨rfl, ⟨nd, rfl⟩⟩; refine ⟨_, rfl, ?_⟩; (try (rw [drewN_self w7]; generalize hq_ : World.drewN w7 _ = w7; have n0_ : Aside0 (IsS50 w0 w7 g t121 t122) := ⟨by rw [← hq_]; exact (by repeat (first | (with_reducible first | exact HI0.out | apply IsS50.alloc | apply IsS50.drewN | apply IsS50.drew | apply IsS50.set_0 | apply IsS50.set_1) | exact HI0.out))⟩; have n1_ : Aside0 (KeepBut w w7 g none) := ⟨by rw [← hq_]; exact (qh_ HK.out)⟩; have n2_ : Aside0 (Below w0.heap.size w0 w7) := ⟨by rw [← hq_]; exact (by repeat (first | (with_reducible first | exact HB.out | apply below_alloc | apply pw_below_drewN | apply below_drew1 | refine below_set ?_ (IsS50.ge HI0.out)) | exact HB.out))⟩; clear HI0 HK HB hq_; have HI0 := n0_; have HK := n1_; have HB := n2_; clear n0_ n1_ n2_; (try have hq0_ := cellS50_0 HI0.out.1); (try have hq1_ := cellS50_1 HI0.out.1); (try have hq2_ := blk_frozen HI0.out.1 0); (try have hq3_ := blk_frozen HI0.out.1 1))); obtain ⟨HGz8, hgz8⟩ := HI0.out; have hcz8_0 := cellS50_0 HGz8; have hcz8_1 := cellS50_1 HGz8; have hfz8_0 := blk_frozen HGz8 0; have hfz8_1 := blk_frozen HGz8 1; clear HGz8 hgz8))
  go_ret
  exact ⟨qw_, by repeat (first | (with_reducible first | exact HI0.out | apply IsS50.alloc | apply IsS50.drewN | apply IsS50.drew | apply IsS50.set_0 | apply IsS50.set_1) | exact HI0.out), by repeat (first | (with_reducible first | exact HB.out | apply below_alloc | apply pw_below_drewN | apply below_drew1 | refine below_set ?_ (IsS50.ge HI0.out)) | exact HB.out), qh_ HK.out⟩

/-! ### chars_Fold: function 53 -/
def chars_Fold.low (x : Int) : Int := (chars_Lower.f x).getD 0
def chars_Fold.f (a0 : ByteArray) : Option ByteArray := if a0.size ≤ 9223372036854775807 then some (strOfNums ((bytesOf a0).map chars_Fold.low)) else none
theorem chars_Fold.low_is (x : Int) : chars_Lower.f x = some (chars_Fold.low x) := by
  unfold chars_Fold.low chars_Lower.f
  by_cases h1 : x ≥ 65
  · by_cases h2 : x ≤ 90
    · simp only [if_pos h1, if_pos h2]; rfl
    · simp only [if_pos h1, if_neg h2]; rfl
  · simp only [if_neg h1]; rfl
theorem chars_Fold.low_get (s : ByteArray) (i : Nat) : ((bytesOf s).map chars_Fold.low).getD i 0 = chars_Fold.low ((bytesOf s).getD i 0) := by
  simp only [List.getD_eq_getElem?_getD, List.getElem?_map]
  cases (bytesOf s)[i]? <;> rfl
def chars_Fold.row (w wr : World) (s : ByteArray) (i : Nat) : Prop :=
  ∃ (C : Array Value) (m : Nat), wr.heap[w.heap.size]? = some (.cells C 5 (m, m + 1)) ∧ C.size = m ∧ s.size ≤ m ∧ ∀ j, j < s.size → C[j]? = some (.int .u8 (if j < i then chars_Fold.low ((bytesOf s).getD j 0) else (bytesOf s).getD j 0))
theorem chars_Fold.start (w : World) (s : ByteArray) (hs : s.size ≤ 9223372036854775807) : chars_Fold.row w (Lib.bytesWorld w 5 s) s 0 := by
  refine ⟨_, _, Lib.bytesWorld_at_new w 5 s, rfl, by simp [Lib.bytesCells], fun j hj => ?_⟩
  have h1 := Lib.bytesWorld_cell w 5 s j hj
  rw [cell_of_row _ _ _ _ _ _ (Lib.bytesWorld_at_new w 5 s)] at h1
  have h' : j < s.data.toList.length := by rw [data_length]; exact hj
  rw [h1, if_neg (Nat.not_lt_zero _)]
  simp [bytesOf, List.getD_eq_getElem?_getD, List.getElem?_eq_getElem h']
theorem chars_Fold.next {w wr : World} {s : ByteArray} {i : Nat} (h : chars_Fold.row w wr s i) (hi : i < s.size) : chars_Fold.row w (wr.setCell ⟨w.heap.size, i, none⟩ (.int .u8 (chars_Fold.low ((bytesOf s).getD i 0)))) s (i + 1) := by
  obtain ⟨C, m, hg, hm, hsm, hc⟩ := h
  refine ⟨C.setIfInBounds i (.int .u8 (chars_Fold.low ((bytesOf s).getD i 0))), m, ?_, by simpa using hm, hsm, fun j hj => ?_⟩
  · rw [setCell_eq_setRow wr _ i C _ _ _ hg]; exact setRow_heap wr _ C _ _ _ hg
  · rw [Array.getElem?_setIfInBounds]
    by_cases e : i = j
    · subst e; simp [show i < C.size by omega]
    · have : (j < i + 1) ↔ j < i := by omega
      simp only [e, if_false, this]; exact hc j hj
theorem chars_Fold.cell {w wr : World} {s : ByteArray} {i : Nat} (h : chars_Fold.row w wr s i) (j : Nat) (hj : j < s.size) : wr.cell? ⟨w.heap.size, j, none⟩ = some (.int .u8 (if j < i then chars_Fold.low ((bytesOf s).getD j 0) else (bytesOf s).getD j 0)) ∧ wr.frozen? ⟨w.heap.size, j, none⟩ = false := by
  obtain ⟨C, m, hg, hm, hsm, hc⟩ := h
  refine ⟨by rw [cell_of_row _ _ _ _ _ _ hg]; exact hc j hj, ?_⟩
  simp [World.frozen?, hg]; omega
theorem chars_Fold.reads {w wr : World} {s : ByteArray} (h : chars_Fold.row w wr s s.size) (hs : s.size ≤ 9223372036854775807) : Kd.C (Kd.int .u8) wr (some ⟨w.heap.size, 0, none⟩) s.size ((bytesOf s).map chars_Fold.low) := by
  refine Kd.C_of_reads (d := (0 : Int)) (h1 := fun _ => rfl) ⟨by simp [bytesOf_length], hs, fun _ => ⟨_, rfl, fun j hj => ?_⟩⟩
  rw [add_plain, (chars_Fold.cell h j hj).1, if_pos hj, chars_Fold.low_get]
set_option maxHeartbeats 2000000 in
theorem chars_Fold.calls (a0 : ByteArray) (r : ByteArray) (w : World) (h : chars_Fold.f a0 = some r) :
    Calls Tryd.prog 53 #[.string a0] w fun e w' => e = .returned (.string r) ∧ Below w.heap.size w w' := by
  unfold chars_Fold.f at h
  by_cases hs : a0.size ≤ 9223372036854775807
  case neg => rw [if_neg hs] at h; exact absurd h (by simp)
  rw [if_pos hs] at h
  have hr := Option.some.inj h
  clear h
  subst hr
  have hcv := print_bytes (P := Tryd.prog) 9 42 5 Tryd.underlying9 Tryd.underlying42 Tryd.underlying5 a0 w
  have hR := Aside0.mk (chars_Fold.start w a0 hs)
  have hB := Aside0.mk (bytes_below (Below.refl w.heap.size w) (Nat.le_refl _) 5 a0)
  go_enter Tryd.func53, Tryd.ntmps53
  go_wp2
  go_loopw [4, 9] (fun v4 v9 wr => ∃ i : Nat, i ≤ a0.size ∧ v9 = .int .i64 i ∧ Aside0 (chars_Fold.row w wr a0 i) ∧ Aside0 (Below w.heap.size w wr)) (fun v4 v9 _ => a0.size - (intOf v9).toNat)
  case atStart => exact ⟨0, Nat.zero_le _, rfl, hR, hB⟩
  case round =>
    obtain ⟨i, hi, rfl, hR, hB⟩ := hrel
    by_cases hlt : i < a0.size
    · obtain ⟨hc, hf⟩ := chars_Fold.cell hR.out i hlt
      rw [if_neg (Nat.lt_irrefl _)] at hc
      go_wp2_with (go_at_call 52; refine (chars_Lower.calls _ _ _ (chars_Fold.low_is _)).mono ?_; rintro e w' ⟨rfl, ⟨n, rfl⟩⟩)
      go_roundw
      case measure => simp [intOf]; omega
      case rel =>
        refine ⟨i + 1, hlt, by go_num, ⟨?_⟩, ⟨?_⟩⟩
        · exact chars_Fold.next (wr := wr.drewN n) hR.out hlt
        · exact (pw_below_drewN hB.out n).setCell (Nat.le_refl _) _
    · have e : i = a0.size := by omega
      subst e
      have hcv2 : (convert 42 9 (.slice (some ⟨w.heap.size, 0, none⟩) a0.size (grownCap w a0.size 0 5))).run Tryd.prog wr = .ok (.string (strOfNums ((bytesOf a0).map chars_Fold.low))) wr := Kd.C_string (P := Tryd.prog) Tryd.underlying42 Tryd.underlying5 Tryd.underlying9 (chars_Fold.reads hR.out hs)
      go_wp2
      go_ret
      exact ⟨rfl, hB.out⟩

/-! ### chars_Same: function 40 -/
def chars_Same.f (a0 : ByteArray) (a1 : ByteArray) : Option (Bool) := (chars_Fold.f a0).bind fun t125 => ((chars_Fold.f a1).bind fun t126 => (some (t125.toList == t126.toList)))
set_option maxHeartbeats 8000000 in
set_option maxRecDepth 100000 in
theorem chars_Same.calls (a0 : ByteArray) (a1 : ByteArray) (r : Bool) (w : World) (h : chars_Same.f a0 a1 = some r) :
  Calls Tryd.prog 40 #[.string a0, .string a1] w fun e w' => e = .returned (.bool r) ∧ Below w.heap.size w w' := by
 have HB := Aside0.mk (Below.refl w.heap.size w)
 have H : ((chars_Fold.f a0).bind fun t125 => ((chars_Fold.f a1).bind fun t126 => (some (t125.toList == t126.toList)))) = some r := h
 clear h
 replace H := Option.bind_eq_some_iff.mp H
 obtain ⟨t125, A30, H⟩ := H
 replace H : ((chars_Fold.f a1).bind fun t126 => (some (t125.toList == t126.toList))) = some r := H
 have A3 := Aside0.mk A30
 clear A30
 replace H := Option.bind_eq_some_iff.mp H
 obtain ⟨t126, A40, H⟩ := H
 replace H : (some (t125.toList == t126.toList)) = some r := H
 have A4 := Aside0.mk A40
 clear A40
 obtain rfl := Option.some.inj H
 go_enter Tryd.func40, Tryd.ntmps40
 go_wp2_with (first | ((with_reducible refine gate_callee (f := 53) rfl ?_); refine goesL_ (some 6) rfl rfl Tryd.func53 (by kernel_rfl) rfl #[.string a0] rfl qa_ ?_; (with_reducible refine (chars_Fold.calls a0 t125 _ A3.out).mono ?_); rintro e w5 ⟨rfl, hb⟩; refine ⟨_, rfl, ?_⟩; have n0_ := Aside0.mk (below_step (qb_ HB.out) hb); clear HB; have HB := n0_; clear n0_; (try clear hb); (try clear hb2); (try clear hk); (try clear hi)) | ((with_reducible refine gate_callee (f := 53) rfl ?_); refine goesL_ (some 8) rfl rfl Tryd.func53 (by kernel_rfl) rfl #[.string a1] rfl qa_ ?_; (with_reducible refine (chars_Fold.calls a1 t126 _ A4.out).mono ?_); rintro e w6 ⟨rfl, hb⟩; refine ⟨_, rfl, ?_⟩; have n0_ := Aside0.mk (below_step (qb_ HB.out) hb); clear HB; have HB := n0_; clear n0_; (try clear hb); (try clear hb2); (try clear hk); (try clear hi)))
 go_ret
 exact ⟨qw_, qb_ HB.out⟩

end Go.Proofs.YtbjbagocnnffaaaDoor.P
