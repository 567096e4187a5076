-- Written by a program of this session (wip/tools/mk.sh) for this claim: it runs the kit's print with contracts of our own. Lean checks it.
import Derived.Test.YtmbiggcapakjjaaDoorPx0
import Derived.Test.YtmbiggcapakjjaaDoorWRepsOne
import Derived.Test.YtmbiggcapakjjaaDoorZSplit
import Derived.Test.YtmbiggcapakjjaaDoorPx3
namespace Go.Proofs.YtmbiggcapakjjaaDoor.P
open Go.RowKit Go.Proofs.YtmbiggcapakjjaaDoorW.PrintWords Go.Proofs.YtmbiggcapakjjaaDoorW.PrintLast Go.Proofs.YtmbiggcapakjjaaDoorW.PrintMore
attribute [-simp] Int.tmod_tmod_of_dvd
attribute [local go_sem] max2_int min2_int max_two min_two max_three min_three max_four min_four   -- for this text's walks alone
set_option linter.unusedVariables false
set_option linter.unusedSimpArgs false

/-! ### date_civil: function 39 -/
mutual
def date_civil.j0 : Nat → Int → Bool → Option (Int × Int × Int × Bool)
 | 0, _, _ => none
 | k + 1, x0, x18 => if x18 = true then (some (0, 0, 0, false)) else (date_civil.l0 k x0 (wrap64 ((wrap64 (Int.tdiv x0 366)) + 1)))
def date_civil.l0 : Nat → Int → Int → Option (Int × Int × Int × Bool)
 | 0, _, _ => none
 | k + 1, x0, x6 => (date_ahead.f (wrap64 (x6 + 1))).bind fun t221 => (if t221 ≤ x0 then (date_civil.l0 k x0 (wrap64 (x6 + 1))) else ((date_ahead.f x6).bind fun t222 => (date_civil.l1 k x6 (wrap64 (x0 - t222)) 0)))
def date_civil.l1 : Nat → Int → Int → Int → Option (Int × Int × Int × Bool)
 | 0, _, _, _ => none
 | k + 1, x6, x7, x8 => (date_length.f x6 x8).bind fun t223 => (if x7 ≥ t223 then ((date_length.f x6 x8).bind fun t224 => (date_civil.l1 k x6 (wrap64 (x7 - t224)) (wrap64 (x8 + 1)))) else (some (x6, x8, wrap64 (x7 + 1), true)))
end
def date_civil.f (k : Nat) (a0 : Int) : Option (Int × Int × Int × Bool) := (date_ahead.f 1970).bind fun t219 => (if (wrap64 (a0 + t219)) < 0 then (date_civil.j0 k (wrap64 (a0 + t219)) true) else ((date_ahead.f 10000).bind fun t220 => (date_civil.j0 k (wrap64 (a0 + t219)) (decide ((wrap64 (a0 + t219)) ≥ t220)))))
theorem date_civil.mono_l : ∀ k, (∀ y0 y1, LeO (date_civil.j0 k y0 y1) (date_civil.j0 (k + 1) y0 y1)) ∧ (∀ y0 y1, LeO (date_civil.l0 k y0 y1) (date_civil.l0 (k + 1) y0 y1)) ∧ (∀ y0 y1 y2, LeO (date_civil.l1 k y0 y1 y2) (date_civil.l1 (k + 1) y0 y1 y2))
 | 0 => ⟨fun _ _ r h => by simp [date_civil.j0] at h, fun _ _ r h => by simp [date_civil.l0] at h, fun _ _ _ r h => by simp [date_civil.l1] at h⟩
 | k + 1 => by
  obtain ⟨ih0, ih1, ih2⟩ := date_civil.mono_l k
  refine ⟨?_, ?_, ?_⟩
  ·intro y0 y1
   unfold date_civil.j0
   repeat' first
   | (with_reducible exact ih0 _ _)
   | (with_reducible exact ih1 _ _)
   | (with_reducible exact ih2 _ _ _)
   | (with_reducible exact LeO.refl _)
   | (with_reducible exact LeO.none _)
   | (with_reducible refine LeO.ite ?_ ?_)
   | (with_reducible refine LeO.bind ?_ (fun _ => ?_))
   | exact ih0 _ _
   | exact ih1 _ _
   | exact ih2 _ _ _
   | exact LeO.none _
   | refine LeO.ite ?_ ?_
   | refine LeO.bind ?_ (fun _ => ?_)
  ·intro y0 y1
   unfold date_civil.l0
   repeat' first
   | (with_reducible exact ih0 _ _)
   | (with_reducible exact ih1 _ _)
   | (with_reducible exact ih2 _ _ _)
   | (with_reducible exact LeO.refl _)
   | (with_reducible exact LeO.none _)
   | (with_reducible refine LeO.ite ?_ ?_)
   | (with_reducible refine LeO.bind ?_ (fun _ => ?_))
   | exact ih0 _ _
   | exact ih1 _ _
   | exact ih2 _ _ _
   | exact LeO.none _
   | refine LeO.ite ?_ ?_
   | refine LeO.bind ?_ (fun _ => ?_)
  ·intro y0 y1 y2
   unfold date_civil.l1
   repeat' first
   | (with_reducible exact ih0 _ _)
   | (with_reducible exact ih1 _ _)
   | (with_reducible exact ih2 _ _ _)
   | (with_reducible exact LeO.refl _)
   | (with_reducible exact LeO.none _)
   | (with_reducible refine LeO.ite ?_ ?_)
   | (with_reducible refine LeO.bind ?_ (fun _ => ?_))
   | exact ih0 _ _
   | exact ih1 _ _
   | exact ih2 _ _ _
   | exact LeO.none _
   | refine LeO.ite ?_ ?_
   | refine LeO.bind ?_ (fun _ => ?_)
theorem date_civil.mono : ∀ a0 k, LeO (date_civil.f k a0) (date_civil.f (k + 1) a0) := by
 intro a0 k
 obtain ⟨ih0, ih1, ih2⟩ := date_civil.mono_l k
 unfold date_civil.f
 repeat' first
   | (with_reducible exact ih0 _ _)
   | (with_reducible exact ih1 _ _)
   | (with_reducible exact ih2 _ _ _)
   | (with_reducible exact LeO.refl _)
   | (with_reducible exact LeO.none _)
   | (with_reducible refine LeO.ite ?_ ?_)
   | (with_reducible refine LeO.bind ?_ (fun _ => ?_))
   | exact ih0 _ _
   | exact ih1 _ _
   | exact ih2 _ _ _
   | exact LeO.none _
   | refine LeO.ite ?_ ?_
   | refine LeO.bind ?_ (fun _ => ?_)
set_option maxHeartbeats 8000000 in
set_option maxRecDepth 100000 in
theorem date_civil.calls (k : Nat) (a0 : Int) (r1 : Int) (r2 : Int) (r3 : Int) (r4 : Bool) (w : World) (h : date_civil.f k a0 = some (r1, r2, r3, r4)) :
  Calls Tryd.prog 39 #[.int .i64 a0] w fun e w' => e = .returned (.tuple #[.int .i64 r1, .int .i64 r2, .int .i64 r3, .bool r4]) ∧ Drawn0 w w' := by
 have H : ((date_ahead.f 1970).bind fun t219 => (if (wrap64 (a0 + t219)) < 0 then (date_civil.j0 k (wrap64 (a0 + t219)) true) else ((date_ahead.f 10000).bind fun t220 => (date_civil.j0 k (wrap64 (a0 + t219)) (decide ((wrap64 (a0 + t219)) ≥ t220)))))) = some (r1, r2, r3, r4) := h
 clear h
 replace H := Option.bind_eq_some_iff.mp H
 obtain ⟨t219, A20, H⟩ := H
 replace H : (if (wrap64 (a0 + t219)) < 0 then (date_civil.j0 k (wrap64 (a0 + t219)) true) else ((date_ahead.f 10000).bind fun t220 => (date_civil.j0 k (wrap64 (a0 + t219)) (decide ((wrap64 (a0 + t219)) ≥ t220))))) = some (r1, r2, r3, r4) := H
 have A2 := Aside0.mk A20
 clear A20
 have HC3 := Aside0.mk H
 clear H
 go_enter Tryd.func39, Tryd.ntmps39
 go_upto_region 2 with (first | ((with_reducible refine gate_callee (f := 52) rfl ?_); refine goesL_ (some 10) rfl rfl Tryd.func52 (by kernel_rfl) rfl #[.int .i64 1970] rfl qa_ ?_; (with_reducible refine (date_ahead.calls 1970 t219 _ A2.out).mono ?_); rintro e w' ⟨rfl, ⟨nd, rfl⟩⟩; refine ⟨_, rfl, ?_⟩))
 (try simp only [Act.put, List.setIfInBounds_toArray, List.set_cons_zero, List.set_cons_succ])
 go_cut [18] (fun v18 wc => ∃ (kq : Nat) (x18_2 : Bool), v18 = .bool x18_2 ∧ Aside0 (date_civil.j0 kq (wrap64 (a0 + t219)) x18_2 = some (r1, r2, r3, r4)) ∧ Aside0 (kq ≤ k) ∧ Drawn0 w wc)
 case first =>
  have H := HC3.out
  clear HC3
  by_cases c4 : (wrap64 (a0 + t219)) < 0
  ·rw [if_pos c4] at H
   have c4b0 : decide ((wrap64 (a0 + t219)) < 0) = true := decide_eq_true c4
   clear c4
   (first | rw [c4b0] | (simp only [i64_w, i32_w]; rw [c4b0]) | skip)
   have H' := Aside0.mk H
   clear H
   go_wp2
   go_meet
   case rel => exact ⟨_, (true), qr_, H', ⟨by first | omega | exact Nat.le_refl _⟩, by repeat (first | exact Drawn0.refl _ | apply Drawn0.step)⟩
  ·rw [if_neg c4] at H
   have c4b0 : decide ((wrap64 (a0 + t219)) < 0) = false := decide_eq_false c4
   clear c4
   (first | rw [c4b0] | (simp only [i64_w, i32_w]; rw [c4b0]) | skip)
   replace H := Option.bind_eq_some_iff.mp H
   obtain ⟨t220, A50, H⟩ := H
   replace H : (date_civil.j0 k (wrap64 (a0 + t219)) (decide ((wrap64 (a0 + t219)) ≥ t220))) = some (r1, r2, r3, r4) := H
   have A5 := Aside0.mk A50
   clear A50
   have H' := Aside0.mk H
   clear H
   go_wp2_with (first | (go_at_call 52; (with_reducible refine (date_ahead.calls 10000 t220 _ A5.out).mono ?_); rintro e w' ⟨rfl, ⟨nd, rfl⟩⟩))
   go_meet
   case rel => exact ⟨_, (decide ((wrap64 (a0 + t219)) ≥ t220)), qr_, H', ⟨by first | omega | exact Nat.le_refl _⟩, by repeat (first | exact Drawn0.refl _ | apply Drawn0.step)⟩
 case rest =>
  clear HC3
  obtain ⟨kq, x18_2, rfl, HA, HJ2, ⟨mc2, rfl⟩⟩ := hcut
  cases kq with
  | zero => exact absurd HA.out (by simp [date_civil.j0])
  | succ kj2 =>
   have H := HA.out
   clear HA
   simp only [date_civil.j0] at H
   by_cases c6 : x18_2 = true
   ·subst c6
    have H1 : (some (0, 0, 0, false)) = some (r1, r2, r3, r4) := by rw [if_pos rfl] at H; exact H
    clear H
    have H := H1
    clear H1
    simp only [Option.some.injEq, Prod.mk.injEq] at H
    obtain ⟨rfl, rfl, rfl, rfl⟩ := H
    go_wp2
    refine bodyPost_ret (results_list (rs := [.tmp 2, .tmp 3, .tmp 4, .tmp 5]) rfl (by simp) (.tmp (.tmp (.tmp (.tmp .nil))))) rfl ?_
    exact ⟨by first | rfl | (simp; done) | (simp [*]; done), by repeat (first | exact Drawn0.refl _ | apply Drawn0.step)⟩
   ·replace c6 := Bool.eq_false_iff.mpr c6
    subst c6
    have H1 : (date_civil.l0 kj2 (wrap64 (a0 + t219)) (wrap64 ((wrap64 (Int.tdiv (wrap64 (a0 + t219)) 366)) + 1))) = some (r1, r2, r3, r4) := by rw [if_neg (show ¬ (false = true) by decide)] at H; exact H
    clear H
    have H := H1
    clear H1
    have H' := Aside0.mk H
    clear H
    go_wp2
    go_loopg [6] kj2 (fun kq v6 w' => ∃ (x6_2 : Int), v6 = .int .i64 x6_2 ∧ Aside0 (date_civil.l0 kq (wrap64 (a0 + t219)) x6_2 = some (r1, r2, r3, r4)) ∧ Aside0 (kq ≤ kj2) ∧ Drawn0 w w')
    case atStart => exact ⟨(wrap64 ((wrap64 (Int.tdiv (wrap64 (a0 + t219)) 366)) + 1)), qr_, H', ⟨Nat.le_refl _⟩, by repeat (first | exact Drawn0.refl _ | apply Drawn0.step)⟩
    case round =>
     clear H'
     (try clear c6)
     obtain ⟨x6_2, rfl, HA, HK2, ⟨m2, rfl⟩⟩ := hrel
     cases gk with
     | zero => exact absurd HA.out (by simp [date_civil.l0])
     | succ k2 =>
      have H := HA.out
      clear HA
      simp only [date_civil.l0] at H
      replace H := Option.bind_eq_some_iff.mp H
      obtain ⟨t221, A70, H⟩ := H
      replace H : (if t221 ≤ (wrap64 (a0 + t219)) then (date_civil.l0 k2 (wrap64 (a0 + t219)) (wrap64 (x6_2 + 1))) else ((date_ahead.f x6_2).bind fun t222 => (date_civil.l1 k2 x6_2 (wrap64 ((wrap64 (a0 + t219)) - t222)) 0))) = some (r1, r2, r3, r4) := H
      have A7 := Aside0.mk A70
      clear A70
      by_cases c8 : t221 ≤ (wrap64 (a0 + t219))
      ·rw [if_pos c8] at H
       have c8b0 : decide (t221 ≤ (wrap64 (a0 + t219))) = true := decide_eq_true c8
       clear c8
       have H' := Aside0.mk H
       clear H
       go_wp2_with (first | ((with_reducible refine gate_callee (f := 52) rfl ?_); refine goesL_ (some 24) rfl rfl Tryd.func52 (by kernel_rfl) rfl #[.int .i64 (wrap64 (x6_2 + 1))] rfl qa_ ?_; (with_reducible refine (date_ahead.calls (wrap64 (x6_2 + 1)) t221 _ A7.out).mono ?_); rintro e w' ⟨rfl, ⟨nd, rfl⟩⟩; refine ⟨_, rfl, ?_⟩))
       go_roundg k2
       case measure => have := HJ2.out; have := HK2.out; omega
       case rel => exact ⟨(wrap64 (x6_2 + 1)), qr_, H', ⟨by have := HJ2.out; have := HK2.out; omega⟩, by repeat (first | exact Drawn0.refl _ | apply Drawn0.step)⟩
      ·rw [if_neg c8] at H
       have c8b0 : decide (t221 ≤ (wrap64 (a0 + t219))) = false := decide_eq_false c8
       clear c8
       replace H := Option.bind_eq_some_iff.mp H
       obtain ⟨t222, A90, H⟩ := H
       replace H : (date_civil.l1 k2 x6_2 (wrap64 ((wrap64 (a0 + t219)) - t222)) 0) = some (r1, r2, r3, r4) := H
       have A9 := Aside0.mk A90
       clear A90
       have H' := Aside0.mk H
       clear H
       go_wp2_with (first | ((with_reducible refine gate_callee (f := 52) rfl ?_); refine goesL_ (some 24) rfl rfl Tryd.func52 (by kernel_rfl) rfl #[.int .i64 (wrap64 (x6_2 + 1))] rfl qa_ ?_; (with_reducible refine (date_ahead.calls (wrap64 (x6_2 + 1)) t221 _ A7.out).mono ?_); rintro e w' ⟨rfl, ⟨nd, rfl⟩⟩; refine ⟨_, rfl, ?_⟩) | ((with_reducible refine gate_callee (f := 52) rfl ?_); refine goesL_ (some 31) rfl rfl Tryd.func52 (by kernel_rfl) rfl #[.int .i64 x6_2] rfl qa_ ?_; (with_reducible refine (date_ahead.calls x6_2 t222 _ A9.out).mono ?_); rintro e w' ⟨rfl, ⟨nd, rfl⟩⟩; refine ⟨_, rfl, ?_⟩))
       go_loopg [7, 8] k2 (fun kq v7 v8 w' => ∃ (x7_3 : Int) (x8_3 : Int), v7 = .int .i64 x7_3 ∧ v8 = .int .i64 x8_3 ∧ Aside0 (date_civil.l1 kq x6_2 x7_3 x8_3 = some (r1, r2, r3, r4)) ∧ Aside0 (kq ≤ k2) ∧ Drawn0 w w')
       case atStart => exact ⟨(wrap64 ((wrap64 (a0 + t219)) - t222)), (0), qr_, qr_, H', ⟨Nat.le_refl _⟩, by repeat (first | exact Drawn0.refl _ | apply Drawn0.step)⟩
       case round =>
        clear H'
        obtain ⟨x7_3, x8_3, rfl, rfl, HA, HK3, ⟨m3, rfl⟩⟩ := hrel
        cases gk with
        | zero => exact absurd HA.out (by simp [date_civil.l1])
        | succ k3 =>
         have H := HA.out
         clear HA
         simp only [date_civil.l1] at H
         replace H := Option.bind_eq_some_iff.mp H
         obtain ⟨t223, A100, H⟩ := H
         replace H : (if x7_3 ≥ t223 then ((date_length.f x6_2 x8_3).bind fun t224 => (date_civil.l1 k3 x6_2 (wrap64 (x7_3 - t224)) (wrap64 (x8_3 + 1)))) else (some (x6_2, x8_3, wrap64 (x7_3 + 1), true))) = some (r1, r2, r3, r4) := H
         have A10 := Aside0.mk A100
         clear A100
         by_cases c11 : x7_3 ≥ t223
         ·rw [if_pos c11] at H
          have c11b0 : decide (t223 ≤ x7_3) = true := decide_eq_true c11
          clear c11
          replace H := Option.bind_eq_some_iff.mp H
          obtain ⟨t224, A120, H⟩ := H
          replace H : (date_civil.l1 k3 x6_2 (wrap64 (x7_3 - t224)) (wrap64 (x8_3 + 1))) = some (r1, r2, r3, r4) := H
          have A12 := Aside0.mk A120
          clear A120
          have H' := Aside0.mk H
          clear H
          go_wp2_with (first | ((with_reducible refine gate_callee (f := 51) rfl ?_); refine goesL_ (some 36) rfl rfl Tryd.func51 (by kernel_rfl) rfl #[.int .i64 x6_2, .int .i64 x8_3] rfl qa_ ?_; (with_reducible refine (date_length.calls x6_2 x8_3 t223 _ A10.out).mono ?_); rintro e w' ⟨rfl, ⟨nd, rfl⟩⟩; refine ⟨_, rfl, ?_⟩) | ((with_reducible refine gate_callee (f := 51) rfl ?_); refine goesL_ (some 41) rfl rfl Tryd.func51 (by kernel_rfl) rfl #[.int .i64 x6_2, .int .i64 x8_3] rfl qa_ ?_; (with_reducible refine (date_length.calls x6_2 x8_3 t224 _ A12.out).mono ?_); rintro e w' ⟨rfl, ⟨nd, rfl⟩⟩; refine ⟨_, rfl, ?_⟩))
          go_roundg k3
          case measure => have := HJ2.out; have := HK2.out; have := HK3.out; omega
          case rel => exact ⟨(wrap64 (x7_3 - t224)), (wrap64 (x8_3 + 1)), qr_, qr_, H', ⟨by have := HJ2.out; have := HK2.out; have := HK3.out; omega⟩, by repeat (first | exact Drawn0.refl _ | apply Drawn0.step)⟩
         ·rw [if_neg c11] at H
          have c11b0 : decide (t223 ≤ x7_3) = false := decide_eq_false c11
          clear c11
          simp only [Option.some.injEq, Prod.mk.injEq] at H
          obtain ⟨rfl, rfl, rfl, rfl⟩ := H
          go_wp2_with (first | ((with_reducible refine gate_callee (f := 51) rfl ?_); refine goesL_ (some 36) rfl rfl Tryd.func51 (by kernel_rfl) rfl #[.int .i64 x6_2, .int .i64 x8_3] rfl qa_ ?_; (with_reducible refine (date_length.calls x6_2 x8_3 t223 _ A10.out).mono ?_); rintro e w' ⟨rfl, ⟨nd, rfl⟩⟩; refine ⟨_, rfl, ?_⟩))
          refine bodyPost_ret (results_list (rs := [.tmp 2, .tmp 3, .tmp 4, .tmp 5]) rfl (by simp) (.tmp (.tmp (.tmp (.tmp .nil))))) rfl ?_
          exact ⟨by first | rfl | (simp; done) | (simp [*]; done), by repeat (first | exact Drawn0.refl _ | apply Drawn0.step)⟩

/-! ### date_two: function 40 -/
def date_two.f (a0 : Int) : Option (ByteArray) := some (strOfNums (([(wrap64 (48 + (wrap64 (Int.tdiv a0 10)))) % 256, (wrap64 (48 + (Int.tmod a0 10))) % 256] : List Int)))
set_option maxHeartbeats 8000000 in
set_option maxRecDepth 100000 in
theorem date_two.calls (a0 : Int) (r : ByteArray) (w : World) (h : date_two.f a0 = some r) :
  Calls Tryd.prog 40 #[.int .i64 a0] w fun e w' => e = .returned (.string r) ∧ Below w.heap.size w w' := by
 have HB := Aside0.mk (Below.refl w.heap.size w)
 have H : (some (strOfNums (([(wrap64 (48 + (wrap64 (Int.tdiv a0 10)))) % 256, (wrap64 (48 + (Int.tmod a0 10))) % 256] : List Int)))) = some r := h
 clear h
 obtain ⟨y225, hy225⟩ : ∃ y_ : List Int, y_ = (([(wrap64 (48 + (wrap64 (Int.tdiv a0 10)))) % 256, (wrap64 (48 + (Int.tmod a0 10))) % 256] : List Int)) := ⟨_, rfl⟩
 replace H : (some (strOfNums y225)) = some r := by first | (rw [hy225]; with_reducible exact H) | (have H2_ := (Option.bind_some _ _).symm.trans H; rw [hy225]; with_reducible exact H2_) | (have H2_ := (Option.bind_some _ _).symm.trans H; with_reducible exact H2_) | with_reducible exact H | (rw [hy225]; exact H) | exact H
 have Ny225 := Aside0.mk hy225
 clear hy225
 obtain rfl := Option.some.inj H
 go_enter Tryd.func40, Tryd.ntmps40
 go_wp2_with (first | ((with_reducible refine gate_dst (N := 11) rfl ?_); refine Kd.R_lit (Kd.int .u8) _ 5 ?hg (N := 11) ?hd (xs := ([(wrap64 (48 + (wrap64 (Int.tdiv a0 10)))) % 256, (wrap64 (48 + (Int.tmod a0 10))) % 256] : List Int)) (inner := [.int .u8 ((wrap64 (48 + (wrap64 (Int.tdiv a0 10)))) % 256), .int .u8 ((wrap64 (48 + (Int.tmod a0 10))) % 256)]) (ok := fun _ => True) (okp := fun _ => True) ?hr ?hp (fun _ hk => hk) trivial (Below.refl _ _) (Nat.le_refl _) (by simp) ?_; (case hd => rfl); (case hg => rfl); (case hr => first | (go_simp; done) | (go_simp; rfl)); (case hp => exact (Reps.one (show Kd.M (Kd.int .u8) _ _ _ ((wrap64 (48 + (wrap64 (Int.tdiv a0 10)))) % 256) [.int .u8 ((wrap64 (48 + (wrap64 (Int.tdiv a0 10)))) % 256)] from rfl) (Reps.one (show Kd.M (Kd.int .u8) _ _ _ ((wrap64 (48 + (Int.tmod a0 10))) % 256) [.int .u8 ((wrap64 (48 + (Int.tmod a0 10))) % 256)] from rfl) (Reps.none _ _)))); intro v226 w2 ho3 hb hg_ hnew_; clear hg_ hnew_; (first | rw [← Ny225.out] at ho3 | (simp only [Int.reduceToNat] at ho3; rw [← Ny225.out] at ho3)); have n0_ := Aside0.mk (Kd.R_lower ho3 (below_size (qb_ HB.out))); have n1_ := Aside0.mk (below_step (qb_ HB.out) hb); clear HB; have HO227 := n0_; have HB := n1_; clear n0_ n1_; clear hb ho3; have hcv4 := fun n_ : Nat => own_string (P := Tryd.prog) Tryd.underlying41 Tryd.underlying5 Tryd.underlying9 (Kd.own_of_R (Kd.R_drewN HO227.out n_)); have hcv5 := fun m_ n_ : Nat => own_string (P := Tryd.prog) Tryd.underlying41 Tryd.underlying5 Tryd.underlying9 (Kd.own_of_R (Kd.R_drewN (Kd.R_drewN HO227.out m_) n_)); have hcv6 := own_string (P := Tryd.prog) Tryd.underlying41 Tryd.underlying5 Tryd.underlying9 (Kd.own_of_R HO227.out)))
 go_ret
 exact ⟨qw_, qb_ HB.out⟩

/-! ### chars_Digits: function 41 -/
def chars_Digits.l0 : Nat → Int → ByteArray → Bool → Option (ByteArray)
 | 0, _, _, _ => none
 | k + 1, x0, x3, x4 => if x0 = 0 then (if x4 = true then (if 1 + x3.size ≤ 9223372036854775807 then (some ((⟨#[45]⟩ : ByteArray) ++ x3)) else (none)) else (some x3)) else (if (Utf8.encode (wrap32 (wrap64 (48 + (mx (Int.tmod x0 10) (wrap64 (-(Int.tmod x0 10)))))))).size + x3.size ≤ 9223372036854775807 then (chars_Digits.l0 k (wrap64 (Int.tdiv x0 10)) ((Utf8.encode (wrap32 (wrap64 (48 + (mx (Int.tmod x0 10) (wrap64 (-(Int.tmod x0 10)))))))) ++ x3) x4) else (none))
def chars_Digits.f (k : Nat) (a0 : Int) : Option (ByteArray) := if a0 = 0 then (some (⟨#[48]⟩ : ByteArray)) else (chars_Digits.l0 k a0 (⟨#[]⟩ : ByteArray) (decide (a0 < 0)))
theorem chars_Digits.mono_l : ∀ k, (∀ y0 y1 y2, LeO (chars_Digits.l0 k y0 y1 y2) (chars_Digits.l0 (k + 1) y0 y1 y2))
 | 0 => fun _ _ _ r h => by simp [chars_Digits.l0] at h
 | k + 1 => by
  have ih0 := chars_Digits.mono_l k
  ·intro y0 y1 y2
   unfold chars_Digits.l0
   repeat' first
   | (with_reducible exact ih0 _ _ _)
   | (with_reducible exact LeO.refl _)
   | (with_reducible exact LeO.none _)
   | (with_reducible refine LeO.ite ?_ ?_)
   | (with_reducible refine LeO.bind ?_ (fun _ => ?_))
   | exact ih0 _ _ _
   | exact LeO.none _
   | refine LeO.ite ?_ ?_
   | refine LeO.bind ?_ (fun _ => ?_)
theorem chars_Digits.mono : ∀ a0 k, LeO (chars_Digits.f k a0) (chars_Digits.f (k + 1) a0) := by
 intro a0 k
 have ih0 := chars_Digits.mono_l k
 unfold chars_Digits.f
 repeat' first
   | (with_reducible exact ih0 _ _ _)
   | (with_reducible exact LeO.refl _)
   | (with_reducible exact LeO.none _)
   | (with_reducible refine LeO.ite ?_ ?_)
   | (with_reducible refine LeO.bind ?_ (fun _ => ?_))
   | exact ih0 _ _ _
   | exact LeO.none _
   | refine LeO.ite ?_ ?_
   | refine LeO.bind ?_ (fun _ => ?_)
set_option maxHeartbeats 8000000 in
set_option maxRecDepth 100000 in
theorem chars_Digits.calls (k : Nat) (a0 : Int) (r : ByteArray) (w : World) (h : chars_Digits.f k a0 = some r) :
  Calls Tryd.prog 41 #[.int .i64 a0] w fun e w' => e = .returned (.string r) ∧ Below w.heap.size w w' := by
 have HB := Aside0.mk (Below.refl w.heap.size w)
 have H : (if a0 = 0 then (some (⟨#[48]⟩ : ByteArray)) else (chars_Digits.l0 k a0 (⟨#[]⟩ : ByteArray) (decide (a0 < 0)))) = some r := h
 clear h
 by_cases c2 : a0 = 0
 ·rw [if_pos c2] at H
  have c2b0 : (a0 == 0) = true := beq_iff_eq.mpr c2
  have c2b1 : (a0 != 0) = false := bne_eq_false_iff_eq.mpr c2
  clear c2
  obtain rfl := Option.some.inj H
  go_enter Tryd.func41, Tryd.ntmps41
  go_wp2
  go_ret
  exact ⟨qw_, qb_ HB.out⟩
 ·rw [if_neg c2] at H
  have c2b0 : (a0 == 0) = false := beq_eq_false_iff_ne.mpr c2
  have c2b1 : (a0 != 0) = true := bne_iff_ne.mpr c2
  have H' := Aside0.mk H
  clear H
  go_enter Tryd.func41, Tryd.ntmps41
  go_wp2
  go_loopg [0, 3] k (fun kq v0 v3 w' => ∃ (x0_1 : Int) (x3_1 : ByteArray), v0 = .int .i64 x0_1 ∧ v3 = .string x3_1 ∧ Aside0 (chars_Digits.l0 kq x0_1 x3_1 (decide (a0 < 0)) = some r) ∧ Aside0 (kq ≤ k) ∧ Aside0 (Below w.heap.size w w'))
  case atStart => exact ⟨(a0), ((⟨#[]⟩ : ByteArray)), qr_, qr_, H', ⟨Nat.le_refl _⟩, ⟨qb_ HB.out⟩⟩
  case round =>
   clear H'
   obtain ⟨x0_1, x3_1, rfl, rfl, HA, HK1, HB⟩ := hrel
   cases gk with
   | zero => exact absurd HA.out (by simp [chars_Digits.l0])
   | succ k1 =>
    have H := HA.out
    clear HA
    simp only [chars_Digits.l0] at H
    by_cases c3 : x0_1 = 0
    ·rw [if_pos c3] at H
     have c3b0 : (x0_1 == 0) = true := beq_iff_eq.mpr c3
     have c3b1 : (x0_1 != 0) = false := bne_eq_false_iff_eq.mpr c3
     clear c3
     by_cases c4 : (decide (a0 < 0)) = true
     ·rw [if_pos c4] at H
      have c4b0 : (decide (a0 < 0)) = true := c4
      have c4b6 : (a0 < 0) := of_decide_eq_true c4b0
      clear c4
      by_cases c5 : 1 + x3_1.size ≤ 9223372036854775807
      ·rw [if_pos c5] at H
       have c5b0 := eq_true c5
       have c5b1 : decide (1 + x3_1.size ≤ 9223372036854775807) = true := decide_eq_true c5
       try have c5b2 : (9223372036854775807 < 1 + x3_1.size) = False := eq_false (Nat.not_lt.2 c5)
       obtain rfl := Option.some.inj H
       go_wp2
       go_ret
       exact ⟨qw_, qb_ HB.out⟩
      ·rw [if_neg c5] at H
       exact absurd H (by simp)
     ·rw [if_neg c4] at H
      have c4b0 : (decide (a0 < 0)) = false := by simpa using c4
      have c4b6 : ¬ (a0 < 0) := of_decide_eq_false c4b0
      clear c4
      obtain rfl := Option.some.inj H
      go_wp2
      go_ret
      exact ⟨qw_, qb_ HB.out⟩
    ·rw [if_neg c3] at H
     have c3b0 : (x0_1 == 0) = false := beq_eq_false_iff_ne.mpr c3
     have c3b1 : (x0_1 != 0) = true := bne_iff_ne.mpr c3
     obtain ⟨ji6, hji6⟩ : ∃ j_ : Int, (mx (Int.tmod x0_1 10) (wrap64 (-(Int.tmod x0_1 10)))) = j_ := ⟨_, rfl⟩
     replace H : (if (Utf8.encode (wrap32 (wrap64 (48 + (ji6))))).size + x3_1.size ≤ 9223372036854775807 then (chars_Digits.l0 k1 (wrap64 (Int.tdiv x0_1 10)) ((Utf8.encode (wrap32 (wrap64 (48 + (ji6))))) ++ x3_1) (decide (a0 < 0))) else (none)) = some r := by first | (rw [hji6] at H; exact H) | (simp only [hji6] at H ⊢; exact H)
     have hji6_ : (if (Int.tmod x0_1 10) < (wrap64 (-(Int.tmod x0_1 10))) then (wrap64 (-(Int.tmod x0_1 10))) else (Int.tmod x0_1 10)) = ji6 := hji6
     by_cases c7 : (Utf8.encode (wrap32 (wrap64 (48 + (ji6))))).size + x3_1.size ≤ 9223372036854775807
     ·rw [if_pos c7] at H
      have c7b0 := eq_true c7
      have c7b1 : decide ((Utf8.encode (wrap32 (wrap64 (48 + (ji6))))).size + x3_1.size ≤ 9223372036854775807) = true := decide_eq_true c7
      try have c7b2 : (9223372036854775807 < (Utf8.encode (wrap32 (wrap64 (48 + (ji6))))).size + x3_1.size) = False := eq_false (Nat.not_lt.2 c7)
      have H' := Aside0.mk H
      clear H
      go_wp2
      go_roundg k1
      case measure => have := HK1.out; omega
      case rel => exact ⟨(wrap64 (Int.tdiv x0_1 10)), ((Utf8.encode (wrap32 (wrap64 (48 + (ji6))))) ++ x3_1), qr_, (by first | rfl | (simp; done) | (simp only [← hji6] <;> (first | rfl | simp)) | (simp [*]; done)), H', ⟨by have := HK1.out; omega⟩, ⟨qb_ HB.out⟩⟩
     ·rw [if_neg c7] at H
      exact absurd H (by simp)

end Go.Proofs.YtmbiggcapakjjaaDoor.P
