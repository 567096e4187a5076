-- Written by a program of this session (wip/tools/mk.sh) for this claim: it runs the kit's print with contracts of our own. Lean checks it.
import Derived.Test.YtmbiggcapakjjaaDoorPx0
import Derived.Test.YtmbiggcapakjjaaDoorWRepsOne
import Derived.Test.YtmbiggcapakjjaaDoorWTab
import Derived.Test.YtmbiggcapakjjaaDoorZSplit
import Derived.Test.YtmbiggcapakjjaaDoorPx1
import Derived.Test.YtmbiggcapakjjaaDoorPx2
import Derived.Test.YtmbiggcapakjjaaDoorPx4
namespace Go.Proofs.YtmbiggcapakjjaaDoor.P
open Go.RowKit Go.Proofs.YtmbiggcapakjjaaDoorW.PrintWords Go.Proofs.YtmbiggcapakjjaaDoorW.PrintLast Go.Proofs.YtmbiggcapakjjaaDoorW.PrintMore
attribute [-simp] Int.tmod_tmod_of_dvd
attribute [local go_sem] max2_int min2_int max_two min_two max_three min_three max_four min_four   -- for this text's walks alone
set_option linter.unusedVariables false
set_option linter.unusedSimpArgs false

-- NOT PRINTED: function 61 (utf8_RuneCountInString)

-- NOT PRINTED: function 65 (utf8_decodeRuneInStringSlow)

-- NOT PRINTED: function 62 (utf8_DecodeRuneInString)

-- NOT PRINTED: function 58 (strings_explode)

-- NOT PRINTED: function 70 (bytealg_IndexByteString)

-- NOT PRINTED: function 66 (stringslite_IndexByte)

-- NOT PRINTED: function 67 (bytealg_IndexString)

-- NOT PRINTED: function 68 (bytealg_Cutover)

-- NOT PRINTED: function 71 (bytealg_hashStr_string)

-- NOT PRINTED: function 69 (bytealg_IndexRabinKarp_string)

-- NOT PRINTED: function 64 (stringslite_Index)

-- NOT PRINTED: function 60 (strings_Index)

-- NOT PRINTED: function 63 (bytealg_CountString)

-- NOT PRINTED: function 59 (strings_Count)

-- NOT PRINTED: function 54 (strings_genSplit)

/-! ### strings_Split: function 36 -/
def strings_Split.f (a0 : ByteArray) (a1 : ByteArray) : Option (List ByteArray) := if a0.size < 4294967281 ∧ 1 ≤ a1.size then some (Lib.splitB a1 0 (Lib.countB a0 a1) a0) else none
theorem strings_Split.calls (a0 : ByteArray) (a1 : ByteArray) (r : List ByteArray) (w : World) (h : strings_Split.f a0 a1 = some r) (hL0 : mo_Words w := by first | exact hL0 | exact mo_Words.below hL0 (by repeat (first | (with_reducible first | exact HB.out | apply below_alloc | apply pw_below_drewN | apply below_drew1 | refine below_set ?_ (Aside0.out (by assumption))) | exact HB.out))) :
    Calls Tryd.prog 36 #[.string a0, .string a1] w fun e w' => ∃ v0_ : Value, e = .returned (v0_) ∧ Kd.R Kd.string 9 w' w.heap.size (fun _ => True) v0_ r ∧ Below w.heap.size w w' := by
  unfold strings_Split.f at h
  by_cases hh : a0.size < 4294967281 ∧ 1 ≤ a1.size
  · rw [if_pos hh] at h
    obtain rfl := Option.some.inj h
    obtain ⟨m, hm⟩ := hL0.2
    exact sp_Split a0 a1 m w hh.1 hh.2 hm
  · rw [if_neg hh] at h
    exact absurd h (by simp)

/-! ### date_ParseDay: function 12 -/
mutual
def date_ParseDay.j0 : Nat → ByteArray → Bool → Option (Int × Bool)
 | 0, _, _ => none
 | k + 1, x0, x21 => if x21 = true then (if 1 ≤ (wrap64 ((x0.size : Int) - 1)) then (if (wrap64 ((x0.size : Int) - 1)) ≤ (x0.size : Int) then (date_ParseDay.j1 k (x0.extract 1 ((wrap64 ((x0.size : Int) - 1)) : Int).toNat)) else (none)) else (none)) else (date_ParseDay.j1 k x0)
def date_ParseDay.j1 : Nat → ByteArray → Option (Int × Bool)
 | 0, _ => none
 | k + 1, x0 => (strings_Split.f x0 (⟨#[45]⟩ : ByteArray)).bind fun t202 => (if (t202.length : Int) = 3 then (if 1 < (t202.length : Int) then ((date_month.f (rdOf ByteArray.empty t202 1)).bind fun t206 => (if t206 < 0 then (some (0, false)) else (if 2 < (t202.length : Int) then ((date_digits.f k (rdOf ByteArray.empty t202 2) (([4] : List Int))).bind fun t211 => (if 0 < (t202.length : Int) then ((date_digits.f k (rdOf ByteArray.empty t202 0) (([1, 2] : List Int))).bind fun t216 => ((date_number.f k t211 t206 t216).bind fun bt217 => (some (bt217.1, bt217.2)))) else (none))) else (none)))) else (none)) else (some (0, false)))
end
def date_ParseDay.f (k : Nat) (a0 : ByteArray) : Option (Int × Bool) := if (a0.size : Int) > 1 then (if 0 < (a0.size : Int) then (if (bt a0 0) = 34 then (if 0 ≤ (wrap64 ((a0.size : Int) - 1)) then (if (wrap64 ((a0.size : Int) - 1)) < (a0.size : Int) then (date_ParseDay.j0 k a0 ((bt a0 (wrap64 ((a0.size : Int) - 1))) == 34)) else (none)) else (none)) else (date_ParseDay.j0 k a0 false)) else (none)) else (date_ParseDay.j0 k a0 false)
theorem date_ParseDay.mono_l : ∀ k, (∀ y0 y1, LeO (date_ParseDay.j0 k y0 y1) (date_ParseDay.j0 (k + 1) y0 y1)) ∧ (∀ y0, LeO (date_ParseDay.j1 k y0) (date_ParseDay.j1 (k + 1) y0))
 | 0 => ⟨fun _ _ r h => by simp [date_ParseDay.j0] at h, fun _ r h => by simp [date_ParseDay.j1] at h⟩
 | k + 1 => by
  obtain ⟨ih0, ih1⟩ := date_ParseDay.mono_l k
  refine ⟨?_, ?_⟩
  ·intro y0 y1
   unfold date_ParseDay.j0
   repeat' first
   | (with_reducible exact ih0 _ _)
   | (with_reducible exact ih1 _)
   | (with_reducible exact date_digits.mono _ _ _)
   | (with_reducible exact date_number.mono _ _ _ _)
   | (with_reducible exact LeO.refl _)
   | (with_reducible exact LeO.none _)
   | (with_reducible refine LeO.ite ?_ ?_)
   | (with_reducible refine LeO.bind ?_ (fun _ => ?_))
   | exact ih0 _ _
   | exact ih1 _
   | exact date_digits.mono _ _ _
   | exact date_number.mono _ _ _ _
   | exact LeO.none _
   | refine LeO.ite ?_ ?_
   | refine LeO.bind ?_ (fun _ => ?_)
  ·intro y0
   unfold date_ParseDay.j1
   repeat' first
   | (with_reducible exact ih0 _ _)
   | (with_reducible exact ih1 _)
   | (with_reducible exact date_digits.mono _ _ _)
   | (with_reducible exact date_number.mono _ _ _ _)
   | (with_reducible exact LeO.refl _)
   | (with_reducible exact LeO.none _)
   | (with_reducible refine LeO.ite ?_ ?_)
   | (with_reducible refine LeO.bind ?_ (fun _ => ?_))
   | exact ih0 _ _
   | exact ih1 _
   | exact date_digits.mono _ _ _
   | exact date_number.mono _ _ _ _
   | exact LeO.none _
   | refine LeO.ite ?_ ?_
   | refine LeO.bind ?_ (fun _ => ?_)
theorem date_ParseDay.mono : ∀ a0 k, LeO (date_ParseDay.f k a0) (date_ParseDay.f (k + 1) a0) := by
 intro a0 k
 obtain ⟨ih0, ih1⟩ := date_ParseDay.mono_l k
 unfold date_ParseDay.f
 repeat' first
   | (with_reducible exact ih0 _ _)
   | (with_reducible exact ih1 _)
   | (with_reducible exact date_digits.mono _ _ _)
   | (with_reducible exact date_number.mono _ _ _ _)
   | (with_reducible exact LeO.refl _)
   | (with_reducible exact LeO.none _)
   | (with_reducible refine LeO.ite ?_ ?_)
   | (with_reducible refine LeO.bind ?_ (fun _ => ?_))
   | exact ih0 _ _
   | exact ih1 _
   | exact date_digits.mono _ _ _
   | exact date_number.mono _ _ _ _
   | exact LeO.none _
   | refine LeO.ite ?_ ?_
   | refine LeO.bind ?_ (fun _ => ?_)
def date_ParseDay.T9 : Bool × List (List Nat × List Nat) := (true, [([], []), ([0], [0]), ([1], [1]), ([], []), ([2, 3], [2, 3]), ([], []), ([], []), ([6], [6]), ([7], [7]), ([], []), ([8, 9, 4], [8, 9]), ([4, 5, 10, 10], [4, 5, 10]), ([11], [11]), ([11], [11]), ([12, 11, 0, 1, 2, 3, 4, 5, 6, 7, 8, 9, 10, 11, 12, 13], [12]), ([13, 14, 0, 1, 2, 3, 4, 5, 6, 7, 8, 9, 10, 11, 12, 13, 14], [13])])
def date_ParseDay.B9 : List Nat := [0, 1, 3, 0, 15, 0, 0, 64, 192, 0, 991, 2047, 4095, 4095, 16383, 32767]
theorem date_ParseDay.tab9 : rtab .any (opsOf Tryd.f12 9) = date_ParseDay.T9 := by kernel_rfl
theorem date_ParseDay.bits9 : waitsOk date_ParseDay.T9.2 date_ParseDay.B9 = true := by kernel_rfl
set_option maxHeartbeats 8000000 in
set_option maxRecDepth 100000 in
theorem date_ParseDay.calls (k : Nat) (a0 : ByteArray) (r1 : Int) (r2 : Bool) (w : World) (h : date_ParseDay.f k a0 = some (r1, r2)) (hL0 : mo_Words w := by first | exact hL0 | exact mo_Words.below hL0 (by repeat (first | (with_reducible first | exact HB.out | apply below_alloc | apply pw_below_drewN | apply below_drew1 | refine below_set ?_ (Aside0.out (by assumption))) | exact HB.out))) :
  Calls Tryd.prog 12 #[.string a0] w fun e w' => e = .returned (.tuple #[.int .i64 r1, .bool r2]) ∧ Below w.heap.size w w' := by
 have hw8_ : ∀ x_ : Int, IntKind.u8.wrap x_ = x_ % 256 := IntKind.wrap_u8
 have HB := Aside0.mk (Below.refl w.heap.size w)
 have H : (if (a0.size : Int) > 1 then (if 0 < (a0.size : Int) then (if (bt a0 0) = 34 then (if 0 ≤ (wrap64 ((a0.size : Int) - 1)) then (if (wrap64 ((a0.size : Int) - 1)) < (a0.size : Int) then (date_ParseDay.j0 k a0 ((bt a0 (wrap64 ((a0.size : Int) - 1))) == 34)) else (none)) else (none)) else (date_ParseDay.j0 k a0 false)) else (none)) else (date_ParseDay.j0 k a0 false)) = some (r1, r2) := h
 clear h
 have HC2 := Aside0.mk H
 clear H
 go_enter Tryd.func12, Tryd.ntmps12
 go_upto_region 1 with (fail)
 go_cut [21] (fun v21 wc => ∃ (kq : Nat) (x21_1 : Bool), v21 = .bool x21_1 ∧ Aside0 (date_ParseDay.j0 kq a0 x21_1 = some (r1, r2)) ∧ Aside0 (kq ≤ k) ∧ Aside0 (Below w.heap.size w wc))
 case first =>
  have H := HC2.out
  clear HC2
  by_cases c3 : (a0.size : Int) > 1
  ·rw [if_pos c3] at H
   have c3b0 : decide (1 < (a0.size : Int)) = true := decide_eq_true c3
   have c3b1 : decide (1 < a0.size) = true := decide_eq_true (by omega)
   clear c3
   (first | rw [c3b0] | (simp only [i64_w, i32_w]; rw [c3b0]) | skip)
   by_cases c4 : 0 < (a0.size : Int)
   ·rw [if_pos c4] at H
    have c4b0 : decide (0 < (a0.size : Int)) = true := decide_eq_true c4
    have c4b1 : decide (0 < a0.size) = true := decide_eq_true (by omega)
    clear c4
    by_cases c6 : (bt a0 0) = 34
    ·rw [if_pos c6] at H
     have c6b0 : ((bt a0 0) == 34) = true := beq_iff_eq.mpr c6
     have c6b1 : ((bt a0 0) != 34) = false := bne_eq_false_iff_eq.mpr c6
     clear c6
     obtain ⟨ji7, hji7⟩ : ∃ j_ : Int, (wrap64 ((a0.size : Int) - 1)) = j_ := ⟨_, rfl⟩
     replace H : (if 0 ≤ (ji7) then (if (ji7) < (a0.size : Int) then (date_ParseDay.j0 k a0 ((bt a0 (ji7)) == 34)) else (none)) else (none)) = some (r1, r2) := by first | (rw [hji7] at H; exact H) | (simp only [hji7] at H ⊢; exact H)
     have hji7w : (IntKind.i64.wrap ((a0.size : Int) - 1)) = ji7 := (i64_w _).trans hji7
     by_cases c8 : 0 ≤ (ji7)
     ·rw [if_pos c8] at H
      have c8b0 : decide (0 ≤ (ji7)) = true := decide_eq_true c8
      clear c8
      by_cases c9 : (ji7) < (a0.size : Int)
      ·rw [if_pos c9] at H
       have c9b0 : decide ((ji7) < (a0.size : Int)) = true := decide_eq_true c9
       clear c9
       have H' := Aside0.mk H
       clear H
       have p5 : 0 ≤ (0 : Int) := (by omega)
       have q5 : 0 < a0.size := (by have : (0 : Int) < (a0.size : Int) := qd_; omega)
       have hx5 : ∀ h : 0 < a0.size, ((a0[0]'h).toNat : Int) = bt a0 0 := bt_at a0 0
       clear p5
       have qi5 : (0 < (a0.size : Int)) = True := eq_true (qd_)
       replace q5 := eq_true q5
       have p10 : 0 ≤ ((ji7) : Int) := qd_
       have q10 : (ji7) < (a0.size : Int) := qd_
       have hx10 := bt_at a0 (ji7)
       replace p10 := eq_true p10
       replace q10 := eq_true q10
       go_wp2
       go_meet
       case rel => exact ⟨_, (((bt a0 (ji7)) == 34)), (by first | rfl | (simp; done) | (simp only [← hji7] <;> (first | rfl | simp)) | (simp [*]; done)), (by first | exact H' | (rw [hji7]; exact H')), ⟨by first | omega | exact Nat.le_refl _⟩, ⟨qb_ HB.out⟩⟩
      ·rw [if_neg c9] at H
       exact absurd H (by simp)
     ·rw [if_neg c8] at H
      exact absurd H (by simp)
    ·rw [if_neg c6] at H
     have c6b0 : ((bt a0 0) == 34) = false := beq_eq_false_iff_ne.mpr c6
     have c6b1 : ((bt a0 0) != 34) = true := bne_iff_ne.mpr c6
     have H' := Aside0.mk H
     clear H
     have p5 : 0 ≤ (0 : Int) := (by omega)
     have q5 : 0 < a0.size := (by have : (0 : Int) < (a0.size : Int) := qd_; omega)
     have hx5 : ∀ h : 0 < a0.size, ((a0[0]'h).toNat : Int) = bt a0 0 := bt_at a0 0
     clear p5
     have qi5 : (0 < (a0.size : Int)) = True := eq_true (qd_)
     replace q5 := eq_true q5
     go_wp2
     go_meet
     case rel => exact ⟨_, (false), qr_, (by first | exact H' | (rw [hji7]; exact H')), ⟨by first | omega | exact Nat.le_refl _⟩, ⟨qb_ HB.out⟩⟩
   ·rw [if_neg c4] at H
    exact absurd H (by simp)
  ·rw [if_neg c3] at H
   have c3b0 : decide (1 < (a0.size : Int)) = false := decide_eq_false c3
   have c3b1 : decide (1 < a0.size) = false := decide_eq_false (by omega)
   clear c3
   (first | rw [c3b0] | (simp only [i64_w, i32_w]; rw [c3b0]) | skip)
   have H' := Aside0.mk H
   clear H
   go_wp2
   go_meet
   case rel => exact ⟨_, (false), qr_, (by first | exact H' | (rw [hji7]; exact H')), ⟨by first | omega | exact Nat.le_refl _⟩, ⟨qb_ HB.out⟩⟩
 case rest =>
  clear HC2
  obtain ⟨kq, x21_1, rfl, HA, HJ1, HB⟩ := hcut
  cases kq with
  | zero => exact absurd HA.out (by simp [date_ParseDay.j0])
  | succ kj1 =>
   have H := HA.out
   clear HA
   simp only [date_ParseDay.j0] at H
   have HC11 := Aside0.mk H
   clear H
   go_upto_if 21 with (fail)
   go_cut [0] (fun v0 wc => ∃ (kq : Nat) (x0_10 : ByteArray), v0 = .string x0_10 ∧ Aside0 (date_ParseDay.j1 kq x0_10 = some (r1, r2)) ∧ Aside0 (kq ≤ kj1) ∧ Aside0 (Below w.heap.size w wc))
   case first =>
    have H := HC11.out
    clear HC11
    by_cases c12 : x21_1 = true
    ·subst c12
     have H1 : (if 1 ≤ (wrap64 ((a0.size : Int) - 1)) then (if (wrap64 ((a0.size : Int) - 1)) ≤ (a0.size : Int) then (date_ParseDay.j1 kj1 (a0.extract 1 ((wrap64 ((a0.size : Int) - 1)) : Int).toNat)) else (none)) else (none)) = some (r1, r2) := by rw [if_pos rfl] at H; exact H
     clear H
     have H := H1
     clear H1
     by_cases c13 : 1 ≤ (wrap64 ((a0.size : Int) - 1))
     ·rw [if_pos c13] at H
      have c13b0 := eq_true c13
      have c13b1 : decide (1 ≤ (wrap64 ((a0.size : Int) - 1))) = true := decide_eq_true c13
      clear c13
      by_cases c14 : (wrap64 ((a0.size : Int) - 1)) ≤ (a0.size : Int)
      ·rw [if_pos c14] at H
       have c14b0 := eq_true c14
       have c14b1 : decide ((wrap64 ((a0.size : Int) - 1)) ≤ (a0.size : Int)) = true := decide_eq_true c14
       clear c14
       have H' := Aside0.mk H
       clear H
       go_wp2
       go_meet
       case rel => exact ⟨_, (a0.extract 1 ((wrap64 ((a0.size : Int) - 1)) : Int).toNat), qr_, (by first | exact H' | (rw [hji7]; exact H')), ⟨by have := HJ1.out; first | omega | exact Nat.le_refl _⟩, ⟨qb_ HB.out⟩⟩
      ·rw [if_neg c14] at H
       exact absurd H (by simp)
     ·rw [if_neg c13] at H
      exact absurd H (by simp)
    ·replace c12 := Bool.eq_false_iff.mpr c12
     subst c12
     have H1 : (date_ParseDay.j1 kj1 a0) = some (r1, r2) := by rw [if_neg (show ¬ (false = true) by decide)] at H; exact H
     clear H
     have H := H1
     clear H1
     have H' := Aside0.mk H
     clear H
     go_wp2
     go_meet
     case rel => exact ⟨_, (a0), qr_, (by first | exact H' | (rw [hji7]; exact H')), ⟨by have := HJ1.out; first | omega | exact Nat.le_refl _⟩, ⟨qb_ HB.out⟩⟩
   case rest =>
    clear HC11
    obtain ⟨kq, x0_10, rfl, HA, HJ10, HB⟩ := hcut
    cases kq with
    | zero => exact absurd HA.out (by simp [date_ParseDay.j1])
    | succ kj10 =>
     have H := HA.out
     clear HA
     simp only [date_ParseDay.j1] at H
     replace H := Option.bind_eq_some_iff.mp H
     obtain ⟨t202, A150, H⟩ := H
     replace H : (if (t202.length : Int) = 3 then (if 1 < (t202.length : Int) then ((date_month.f (rdOf ByteArray.empty t202 1)).bind fun t206 => (if t206 < 0 then (some (0, false)) else (if 2 < (t202.length : Int) then ((date_digits.f kj10 (rdOf ByteArray.empty t202 2) (([4] : List Int))).bind fun t211 => (if 0 < (t202.length : Int) then ((date_digits.f kj10 (rdOf ByteArray.empty t202 0) (([1, 2] : List Int))).bind fun t216 => ((date_number.f kj10 t211 t206 t216).bind fun bt217 => (some (bt217.1, bt217.2)))) else (none))) else (none)))) else (none)) else (some (0, false))) = some (r1, r2) := H
     have A15 := Aside0.mk A150
     clear A150
     by_cases c16 : (t202.length : Int) = 3
     ·rw [if_pos c16] at H
      have c16b0 : ((t202.length : Int) == 3) = true := beq_iff_eq.mpr c16
      have c16b1 : ((t202.length : Int) != 3) = false := bne_eq_false_iff_eq.mpr c16
      clear c16
      by_cases c17 : 1 < (t202.length : Int)
      ·rw [if_pos c17] at H
       have c17b0 : decide (1 < (t202.length : Int)) = true := decide_eq_true c17
       have c17b1 : decide (1 < t202.length) = true := decide_eq_true (by omega)
       clear c17
       replace H := Option.bind_eq_some_iff.mp H
       obtain ⟨t206, A180, H⟩ := H
       replace H : (if t206 < 0 then (some (0, false)) else (if 2 < (t202.length : Int) then ((date_digits.f kj10 (rdOf ByteArray.empty t202 2) (([4] : List Int))).bind fun t211 => (if 0 < (t202.length : Int) then ((date_digits.f kj10 (rdOf ByteArray.empty t202 0) (([1, 2] : List Int))).bind fun t216 => ((date_number.f kj10 t211 t206 t216).bind fun bt217 => (some (bt217.1, bt217.2)))) else (none))) else (none))) = some (r1, r2) := H
       have A18 := Aside0.mk A180
       clear A180
       by_cases c19 : t206 < 0
       ·rw [if_pos c19] at H
        have c19b0 : decide (t206 < 0) = true := decide_eq_true c19
        clear c19
        simp only [Option.some.injEq, Prod.mk.injEq] at H
        obtain ⟨rfl, rfl⟩ := H
        go_wp2_with (first | ((with_reducible refine gate_callee (f := 36) rfl ?_); refine goesL_ (some 28) rfl rfl Tryd.func36 (by kernel_rfl) rfl #[.string x0_10, .string (⟨#[45]⟩ : ByteArray)] rfl qa_ ?_; (with_reducible refine (strings_Split.calls x0_10 (⟨#[45]⟩ : ByteArray) t202 _ A15.out).mono ?_); rintro e w20 ⟨v203, rfl, ho0, hb⟩; refine ⟨_, rfl, ?_⟩; have n0_ := Aside0.mk (Kd.R_lower ho0 (below_size (qb_ HB.out))); have n1_ := Aside0.mk (below_step (qb_ HB.out) hb); clear HB; have HO204 := n0_; have HB := n1_; clear n0_ n1_; (try clear hb); (try clear hb2); (try clear hk); (try clear hi); (try clear ho0); obtain ⟨Ao21, co21, eo21⟩ := Kd.R_slice HO204.out; subst eo21; have p205 : 0 ≤ (1 : Int) := (by omega); have q205 : 1 < (t202.length : Int) := qd_; obtain ⟨ad205, e205, hx205_0⟩ := Kd.at_string (Kd.R_reads' HO204.out).2.2 1 p205 q205; cases e205; (try simp only [show (1 : Int).toNat = 1 from rfl, Nat.reduceMul, Nat.reduceEqDiff, Go.Addr.add, ↓reduceIte] at hx205_0); have qi205 : (1 < t202.length) = True := eq_true (by omega); (try rw [show ((1 : Int)).toNat = 1 from rfl] at hx205_0); replace p205 := eq_true p205; replace q205 := eq_true q205) | ((with_reducible refine gate_callee (f := 20) rfl ?_); refine goesL_ (some 35) rfl rfl Tryd.func20 (by kernel_rfl) rfl #[.string (rdOf ByteArray.empty t202 1)] rfl qa_ ?_; (with_reducible refine (date_month.calls (rdOf ByteArray.empty t202 1) t206 _ A18.out).mono ?_); rintro e w22 ⟨rfl, hb⟩; refine ⟨_, rfl, ?_⟩; have n0_ := Aside0.mk (Kd.R_below (ql_ HO204.out) hb); have n1_ := Aside0.mk (below_step (qb_ HB.out) hb); clear HO204; clear HB; have HO204 := n0_; have HB := n1_; clear n0_ n1_; (try clear hb); (try clear hb2); (try clear hk); (try clear hi)))
        go_ret2
        exact ⟨qw_, qb_ HB.out⟩
       ·rw [if_neg c19] at H
        have c19b0 : decide (t206 < 0) = false := decide_eq_false c19
        clear c19
        by_cases c23 : 2 < (t202.length : Int)
        ·rw [if_pos c23] at H
         have c23b0 : decide (2 < (t202.length : Int)) = true := decide_eq_true c23
         have c23b1 : decide (2 < t202.length) = true := decide_eq_true (by omega)
         clear c23
         obtain ⟨y208, hy208⟩ : ∃ y_ : List Int, y_ = (([4] : List Int)) := ⟨_, rfl⟩
         replace H : ((date_digits.f kj10 (rdOf ByteArray.empty t202 2) y208).bind fun t211 => (if 0 < (t202.length : Int) then ((date_digits.f kj10 (rdOf ByteArray.empty t202 0) (([1, 2] : List Int))).bind fun t216 => ((date_number.f kj10 t211 t206 t216).bind fun bt217 => (some (bt217.1, bt217.2)))) else (none))) = some (r1, r2) := by first | (rw [hy208]; with_reducible exact H) | (have H2_ := (Option.bind_some _ _).symm.trans H; rw [hy208]; with_reducible exact H2_) | (have H2_ := (Option.bind_some _ _).symm.trans H; with_reducible exact H2_) | with_reducible exact H | (rw [hy208]; exact H) | exact H
         have Ny208 := Aside0.mk hy208
         clear hy208
         replace H := Option.bind_eq_some_iff.mp H
         obtain ⟨t211, A240, H⟩ := H
         replace H : (if 0 < (t202.length : Int) then ((date_digits.f kj10 (rdOf ByteArray.empty t202 0) (([1, 2] : List Int))).bind fun t216 => ((date_number.f kj10 t211 t206 t216).bind fun bt217 => (some (bt217.1, bt217.2)))) else (none)) = some (r1, r2) := H
         have A24 := Aside0.mk A240
         clear A240
         by_cases c25 : 0 < (t202.length : Int)
         ·rw [if_pos c25] at H
          have c25b0 : decide (0 < (t202.length : Int)) = true := decide_eq_true c25
          have c25b1 : decide (0 < t202.length) = true := decide_eq_true (by omega)
          clear c25
          obtain ⟨y213, hy213⟩ : ∃ y_ : List Int, y_ = (([1, 2] : List Int)) := ⟨_, rfl⟩
          replace H : ((date_digits.f kj10 (rdOf ByteArray.empty t202 0) y213).bind fun t216 => ((date_number.f kj10 t211 t206 t216).bind fun bt217 => (some (bt217.1, bt217.2)))) = some (r1, r2) := by first | (rw [hy213]; with_reducible exact H) | (have H2_ := (Option.bind_some _ _).symm.trans H; rw [hy213]; with_reducible exact H2_) | (have H2_ := (Option.bind_some _ _).symm.trans H; with_reducible exact H2_) | with_reducible exact H | (rw [hy213]; exact H) | exact H
          have Ny213 := Aside0.mk hy213
          clear hy213
          replace H := Option.bind_eq_some_iff.mp H
          obtain ⟨t216, A260, H⟩ := H
          replace H : ((date_number.f kj10 t211 t206 t216).bind fun bt217 => (some (bt217.1, bt217.2))) = some (r1, r2) := H
          have A26 := Aside0.mk A260
          clear A260
          replace H := Option.bind_eq_some_iff.mp H
          obtain ⟨⟨t217, t218⟩, A270, H⟩ := H
          replace H : (some (t217, t218)) = some (r1, r2) := H
          have A27 := Aside0.mk A270
          clear A270
          simp only [Option.some.injEq, Prod.mk.injEq] at H
          obtain ⟨rfl, rfl⟩ := H
          try go_wp2_with (first | ((with_reducible refine gate_callee (f := 36) rfl ?_); refine goesL_ (some 28) rfl rfl Tryd.func36 (by kernel_rfl) rfl #[.string x0_10, .string (⟨#[45]⟩ : ByteArray)] rfl qa_ ?_; (with_reducible refine (strings_Split.calls x0_10 (⟨#[45]⟩ : ByteArray) t202 _ A15.out).mono ?_); rintro e w28 ⟨v203, rfl, ho0, hb⟩; refine ⟨_, rfl, ?_⟩; have n0_ := Aside0.mk (Kd.R_lower ho0 (below_size (qb_ HB.out))); have n1_ := Aside0.mk (below_step (qb_ HB.out) hb); clear HB; have HO204 := n0_; have HB := n1_; clear n0_ n1_; (try clear hb); (try clear hb2); (try clear hk); (try clear hi); (try clear ho0); obtain ⟨Ao29, co29, eo29⟩ := Kd.R_slice HO204.out; subst eo29; have p205 : 0 ≤ (1 : Int) := (by omega); have q205 : 1 < (t202.length : Int) := qd_; obtain ⟨ad205, e205, hx205_0⟩ := Kd.at_string (Kd.R_reads' HO204.out).2.2 1 p205 q205; cases e205; (try simp only [show (1 : Int).toNat = 1 from rfl, Nat.reduceMul, Nat.reduceEqDiff, Go.Addr.add, ↓reduceIte] at hx205_0); have qi205 : (1 < t202.length) = True := eq_true (by omega); (try rw [show ((1 : Int)).toNat = 1 from rfl] at hx205_0); replace p205 := eq_true p205; replace q205 := eq_true q205) | ((with_reducible refine gate_callee (f := 20) rfl ?_); refine goesL_ (some 35) rfl rfl Tryd.func20 (by kernel_rfl) rfl #[.string (rdOf ByteArray.empty t202 1)] rfl qa_ ?_; (with_reducible refine (date_month.calls (rdOf ByteArray.empty t202 1) t206 _ A18.out).mono ?_); rintro e w30 ⟨rfl, hb⟩; refine ⟨_, rfl, ?_⟩; have n0_ := Aside0.mk (Kd.R_below (ql_ HO204.out) hb); have n1_ := Aside0.mk (below_step (qb_ HB.out) hb); clear HO204; clear HB; have HO204 := n0_; have HB := n1_; clear n0_ n1_; (try clear hb); (try clear hb2); (try clear hk); (try clear hi)))
          have n0_ := Aside0.mk (Kd.R_drew HO204.out)
          have n1_ := Aside0.mk (below_drew1 HB.out)
          clear HO204
          clear HB
          have HO204 := n0_
          have HB := n1_
          clear n0_ n1_
          have p207 : 0 ≤ (2 : Int) := (by omega)
          have q207 : 2 < (t202.length : Int) := qd_
          obtain ⟨ad207, e207, hx207_0⟩ := Kd.at_string (Kd.R_reads' HO204.out).2.2 2 p207 q207
          obtain rfl : ad205 = ad207 := (by injection e207)
          (try simp only [show (2 : Int).toNat = 2 from rfl, Nat.reduceMul, Nat.reduceEqDiff, Go.Addr.add, ↓reduceIte] at hx207_0)
          have qi207 : (2 < t202.length) = True := eq_true (by omega)
          (try rw [show ((2 : Int)).toNat = 2 from rfl] at hx207_0)
          replace p207 := eq_true p207
          replace q207 := eq_true q207
          have p212 : 0 ≤ (0 : Int) := (by omega)
          have q212 : 0 < (t202.length : Int) := qd_
          obtain ⟨ad212, e212, hx212_0⟩ := Kd.at_string (Kd.R_reads' HO204.out).2.2 0 p212 q212
          obtain rfl : ad205 = ad212 := (by injection e212)
          have qi212 : (0 < t202.length) = True := eq_true (by omega)
          (try rw [show ((0 : Int)).toNat = 0 from rfl] at hx212_0)
          (try rw [Addr.add_zero'] at hx212_0)
          replace p212 := eq_true p212
          replace q212 := eq_true q212
          refine start_ (n := 16) (S := fun w' => w'.cell? ⟨ad205.block, ad205.off + 2, none⟩ = some (.string (rdOf ByteArray.empty t202 2)) ∧ w'.cell? ad205 = some (.string (rdOf ByteArray.empty t202 0))) (ds := []) #[false, false, false, false, false, false, false, false, false, false, false, false, false, false, false, false] (by kernel_rfl) rfl rfl ⟨hx207_0, hx212_0⟩ (fun hHeld => ?_); refine with_tabW date_ParseDay.tab9 date_ParseDay.bits9 (fun HT_ HW_ => ?_)
          generalize w30.drew = w31 at HO204 HB hx207_0 hx212_0 hHeld ⊢
          refine pure_ (i := 0) (N := some 38) (v := ?_) (a' := ?_) #[true, false, false, false, false, false, false, false, false, false, false, false, false, false, false, false] rfl rfl (any_of HT_.out (by kernel_rfl)) (fun _ _ _ h => h) (Or.inl ⟨by rfl, ?_⟩) ?_ ?_
          rotate_left
          ·intro w'
           go_simp
           with_reducible rfl
          rotate_left
          ·simp only [Act.put, List.setIfInBounds_toArray, List.set_cons_zero, List.set_cons_succ, i64_w, i32_w]
           rfl
          refine pure_ (i := 1) (N := some 39) (v := ?_) (a' := ?_) #[true, true, false, false, false, false, false, false, false, false, false, false, false, false, false, false] rfl rfl (any_of HT_.out (by kernel_rfl)) (fun _ _ _ h => h) (Or.inl ⟨by rfl, ?_⟩) ?_ ?_
          rotate_left
          ·intro w'
           go_simp
           with_reducible rfl
          rotate_left
          ·simp only [Act.put, List.setIfInBounds_toArray, List.set_cons_zero, List.set_cons_succ, i64_w, i32_w]
           rfl
          refine pure_ (i := 5) (N := some 43) (v := ?_) (a' := ?_) #[true, true, false, false, false, true, false, false, false, false, false, false, false, false, false, false] rfl rfl (any_of HT_.out (by kernel_rfl)) (fun _ _ _ h => h) (Or.inl ⟨by rfl, ?_⟩) ?_ ?_
          rotate_left
          ·intro w'
           go_simp
           with_reducible rfl
          rotate_left
          ·simp only [Act.put, List.setIfInBounds_toArray, List.set_cons_zero, List.set_cons_succ, i64_w, i32_w]
           rfl
          refine pure_ (i := 6) (N := some 44) (v := ?_) (a' := ?_) #[true, true, false, false, false, true, true, false, false, false, false, false, false, false, false, false] rfl rfl (any_of HT_.out (by kernel_rfl)) (fun _ _ _ h => h) (Or.inl ⟨by rfl, ?_⟩) ?_ ?_
          rotate_left
          ·intro w'
           go_simp
           with_reducible rfl
          rotate_left
          ·simp only [Act.put, List.setIfInBounds_toArray, List.set_cons_zero, List.set_cons_succ, i64_w, i32_w]
           rfl
          refine pure_ (i := 7) (N := some 45) (v := ?_) (a' := ?_) #[true, true, false, false, false, true, true, true, false, false, false, false, false, false, false, false] rfl rfl (any_of HT_.out (by kernel_rfl)) (fun _ _ _ h => h) (Or.inl ⟨by rfl, ?_⟩) ?_ ?_
          rotate_left
          ·intro w'
           go_simp
           with_reducible rfl
          rotate_left
          ·simp only [Act.put, List.setIfInBounds_toArray, List.set_cons_zero, List.set_cons_succ, i64_w, i32_w]
           rfl
          refine take_ (i := 2) (N := some 40) (v := ?_) (a' := ?_) #[true, true, true, false, false, true, true, true, false, false, false, false, false, false, false, false] rfl rfl (take_ofW HT_.out HW_.out (by kernel_rfl)) (fun _ _ _ h => h) (Or.inl ⟨by rfl, ?_⟩) hHeld ?_ ?_
          rotate_left
          ·rintro w' ⟨s0, s1⟩
           go_simp
           with_reducible rfl
          rotate_left
          ·simp only [Act.put, List.setIfInBounds_toArray, List.set_cons_zero, List.set_cons_succ, i64_w, i32_w]
           rfl
          refine take_ (i := 8) (N := some 46) (v := ?_) (a' := ?_) #[true, true, true, false, false, true, true, true, true, false, false, false, false, false, false, false] rfl rfl (take_ofW HT_.out HW_.out (by kernel_rfl)) (fun _ _ _ h => h) (Or.inl ⟨by rfl, ?_⟩) hHeld ?_ ?_
          rotate_left
          ·rintro w' ⟨s0, s1⟩
           go_simp
           with_reducible rfl
          rotate_left
          ·simp only [Act.put, List.setIfInBounds_toArray, List.set_cons_zero, List.set_cons_succ, i64_w, i32_w]
           rfl
          refine join_ (σ := Value × Value) 6 #[true, true, true, true, true, true, true, true, true, true, false, false, false, false, false, false] (fun s_ => [(41, s_.1), (42, .int .i64 t211), (47, s_.2)]) (fun s_ w' => (w'.cell? ⟨ad205.block, ad205.off + 2, none⟩ = some (.string (rdOf ByteArray.empty t202 2)) ∧ w'.cell? ad205 = some (.string (rdOf ByteArray.empty t202 0))) ∧ (Kd.R Kd.string 9 w' w.heap.size (fun _ => True) (.slice (some ad205) t202.length co29) t202) ∧ (Kd.R (Kd.int .i64) 3 w' w.heap.size (fun k_ => some k_ ≠ (s_.2 : Value).ownBlock) s_.1 y208) ∧ (Kd.R (Kd.int .i64) 3 w' w.heap.size (fun k_ => some k_ ≠ (s_.1 : Value).ownBlock) s_.2 y213) ∧ (Below w.heap.size w w')) ?_ ?_
          rotate_left
          ·intro hCont
           refine two_ (i := 3) (j := 9) (Ni := some 41) (Nj := some 47) #[true, true, true, true, false, true, true, true, true, false, false, false, false, false, false, false] #[true, true, true, false, false, true, true, true, true, true, false, false, false, false, false, false] rfl rfl rfl rfl (two_of HT_.out (by kernel_rfl)) (by decide) (by decide) (fun K hK => ?_) (fun K hK => ?_)
           ·skip
            refine Kd.R_lit_step (Kd.int .i64) _ 3 ?hg (N := 41) ?hd (xs := ([4] : List Int)) (inner := [.int .i64 4]) (ok := fun _ => True) (okp := fun _ => True) ?hr ?hp (fun _ hk => hk) trivial (Below.refl _ _) (Nat.le_refl _) (by simp) ?_; (case hd => rfl); (case hg => rfl); (case hr => first | (go_simp; done) | (go_simp; rfl)); (case hp => exact (Reps.one (show Kd.M (Kd.int .i64) _ _ _ 4 [.int .i64 4] from rfl) (Reps.none _ _)))
            intro v209 w32 ho33 hb hg_ hnew_
            have HS0_ := (hb.cell (World.block_lt_of_cell? _ _ (hHeld.1))).trans (hHeld.1)
            have HS1_ := (hb.cell (World.block_lt_of_cell? _ _ (hHeld.2))).trans (hHeld.2)
            clear hg_ hnew_
            (first | rw [← Ny208.out] at ho33 | (simp only [Int.reduceToNat] at ho33; rw [← Ny208.out] at ho33))
            have n0_ := Aside0.mk (Kd.R_below (ql_ HO204.out) hb)
            have n1_ := Aside0.mk (Kd.R_lower ho33 (below_size (qb_ HB.out)))
            have n2_ := Aside0.mk (below_step (qb_ HB.out) hb)
            clear HO204
            clear HB
            have HO204 := n0_
            have HO210 := n1_
            have HB := n2_
            clear n0_ n1_ n2_
            clear hb ho33
            obtain ⟨Ao34, co34, eo34⟩ := Kd.R_slice HO210.out
            (first | subst eo34 | (injection eo34 with f1_ f2_ f3_; have f4_ := f1_.symm; have f5_ := f3_.symm; clear f1_ f2_ f3_; subst f4_; subst f5_))
            refine hK.out _ _ ⟨HS0_, HS1_⟩ (fun hHeld => ?_)
            clear hK K
            refine norm_ (a' := ?_) ?_ ?_
            rotate_left
            ·show Act.put _ (some 41) _ = _
             simp only [Act.put, List.setIfInBounds_toArray, List.set_cons_zero, List.set_cons_succ, i64_w, i32_w]
             rfl
            refine two_ (i := 4) (j := 9) (Ni := some 42) (Nj := some 47) #[true, true, true, true, true, true, true, true, true, false, false, false, false, false, false, false] #[true, true, true, true, false, true, true, true, true, true, false, false, false, false, false, false] rfl rfl rfl rfl (two_of HT_.out (by kernel_rfl)) (by decide) (by decide) (fun K hK => ?_) (fun K hK => ?_)
            ·skip
             refine goes_ Tryd.func25 (by kernel_rfl) rfl #[.string (rdOf ByteArray.empty t202 2), .slice Ao34 y208.length co34] (by rfl) rfl rfl qa_ ?_
             with_reducible refine (date_digits.calls kj10 (rdOf ByteArray.empty t202 2) _ _ y208 t211 _ ?side1 ?side2 A24.out).mono ?_
             (case side1 => repeat (first | exact (Kd.R_reads' HO210.out).2.2 | (with_reducible refine Kd.C_alloc ?_ _) | (with_reducible refine Kd.C_drewN ?_ _) | (with_reducible refine Kd.C_drew ?_)))
             (case side2 => exact (Kd.R_reads' HO210.out).2.1)
             rintro e w' ⟨rfl, ⟨nd, rfl⟩⟩
             refine ⟨_, rfl, ?_⟩
             refine hK.out _ _ ⟨hHeld.1, hHeld.2⟩ (fun hHeld => ?_)
             clear hK K
             refine norm_ (a' := ?_) ?_ ?_
             rotate_left
             ·show Act.put _ (some 42) _ = _
              simp only [Act.put, List.setIfInBounds_toArray, List.set_cons_zero, List.set_cons_succ, i64_w, i32_w]
              rfl
             refine one_ (i := 9) (N := some 47) #[true, true, true, true, true, true, true, true, true, true, false, false, false, false, false, false] rfl rfl (one_of HT_.out (by kernel_rfl)) (by decide) (fun K hK => ?_)
             refine Kd.R_lit_step (Kd.int .i64) _ 3 ?hg (N := 47) ?hd (xs := ([1, 2] : List Int)) (inner := [.int .i64 1, .int .i64 2]) (ok := fun _ => True) (okp := fun _ => True) ?hr ?hp (fun _ hk => hk) trivial (Below.refl _ _) (Nat.le_refl _) (by simp) ?_; (case hd => rfl); (case hg => rfl); (case hr => first | (go_simp; done) | (go_simp; rfl)); (case hp => exact (Reps.one (show Kd.M (Kd.int .i64) _ _ _ 1 [.int .i64 1] from rfl) (Reps.one (show Kd.M (Kd.int .i64) _ _ _ 2 [.int .i64 2] from rfl) (Reps.none _ _))))
             intro v214 w35 ho36 hb hg_ hnew_
             have HS0_ := (hb.cell (World.block_lt_of_cell? _ _ (hHeld.1))).trans (hHeld.1)
             have HS1_ := (hb.cell (World.block_lt_of_cell? _ _ (hHeld.2))).trans (hHeld.2)
             clear hg_ hnew_
             (first | rw [← Ny213.out] at ho36 | (simp only [Int.reduceToNat] at ho36; rw [← Ny213.out] at ho36))
             have n0_ := Aside0.mk (Kd.R_below (ql_ HO204.out) hb)
             have n1_ := Aside0.mk (Kd.R_elder' (ql_ HO210.out) (Kd.R_base ho36) hb)
             have n2_ := Aside0.mk (Kd.R_lower (Kd.R_new' ho36 (Kd.R_lt (ql_ HO210.out))) (below_size (qb_ HB.out)))
             have n3_ := Aside0.mk (below_step (qb_ HB.out) hb)
             clear HO204
             clear HO210
             clear HB
             have HO204 := n0_
             have HO210 := n1_
             have HO215 := n2_
             have HB := n3_
             clear n0_ n1_ n2_ n3_
             clear hb ho36
             refine hK.out _ _ ⟨HS0_, HS1_⟩ (fun hHeld => ?_)
             clear hK K
             refine norm_ (a' := ?_) ?_ ?_
             rotate_left
             ·show Act.put _ (some 47) _ = _
              simp only [Act.put, List.setIfInBounds_toArray, List.set_cons_zero, List.set_cons_succ, i64_w, i32_w]
              rfl
             exact norm_ (by simp only [putAll, Act.put, List.setIfInBounds_toArray, List.set_cons_zero, List.set_cons_succ]) (hCont (.slice Ao34 y208.length co34, v214) _ ⟨hHeld, (ql_ HO204.out), (by (with_reducible repeat (first | apply Kd.R_alloc | apply Kd.R_drewN | apply Kd.R_drew)); exact Kd.R_mono HO210.out (fun _ hk => hk.2)), (by (with_reducible repeat (first | apply Kd.R_alloc | apply Kd.R_drewN | apply Kd.R_drew)); exact Kd.R_mono HO215.out (fun _ hk => hk.2)), (qb_ HB.out)⟩)
            ·skip
             refine Kd.R_lit_step (Kd.int .i64) _ 3 ?hg (N := 47) ?hd (xs := ([1, 2] : List Int)) (inner := [.int .i64 1, .int .i64 2]) (ok := fun _ => True) (okp := fun _ => True) ?hr ?hp (fun _ hk => hk) trivial (Below.refl _ _) (Nat.le_refl _) (by simp) ?_; (case hd => rfl); (case hg => rfl); (case hr => first | (go_simp; done) | (go_simp; rfl)); (case hp => exact (Reps.one (show Kd.M (Kd.int .i64) _ _ _ 1 [.int .i64 1] from rfl) (Reps.one (show Kd.M (Kd.int .i64) _ _ _ 2 [.int .i64 2] from rfl) (Reps.none _ _))))
             intro v214 w34 ho35 hb hg_ hnew_
             have HS0_ := (hb.cell (World.block_lt_of_cell? _ _ (hHeld.1))).trans (hHeld.1)
             have HS1_ := (hb.cell (World.block_lt_of_cell? _ _ (hHeld.2))).trans (hHeld.2)
             clear hg_ hnew_
             (first | rw [← Ny213.out] at ho35 | (simp only [Int.reduceToNat] at ho35; rw [← Ny213.out] at ho35))
             have n0_ := Aside0.mk (Kd.R_below (ql_ HO204.out) hb)
             have n1_ := Aside0.mk (Kd.R_elder' (ql_ HO210.out) (Kd.R_base ho35) hb)
             have n2_ := Aside0.mk (Kd.R_lower (Kd.R_new' ho35 (Kd.R_lt (ql_ HO210.out))) (below_size (qb_ HB.out)))
             have n3_ := Aside0.mk (below_step (qb_ HB.out) hb)
             clear HO204
             clear HO210
             clear HB
             have HO204 := n0_
             have HO210 := n1_
             have HO215 := n2_
             have HB := n3_
             clear n0_ n1_ n2_ n3_
             clear hb ho35
             obtain ⟨Ao36, co36, eo36⟩ := Kd.R_slice HO210.out
             (first | subst eo36 | (injection eo36 with f1_ f2_ f3_; have f4_ := f1_.symm; have f5_ := f3_.symm; clear f1_ f2_ f3_; subst f4_; subst f5_))
             refine hK.out _ _ ⟨HS0_, HS1_⟩ (fun hHeld => ?_)
             clear hK K
             refine norm_ (a' := ?_) ?_ ?_
             rotate_left
             ·show Act.put _ (some 47) _ = _
              simp only [Act.put, List.setIfInBounds_toArray, List.set_cons_zero, List.set_cons_succ, i64_w, i32_w]
              rfl
             refine one_ (i := 4) (N := some 42) #[true, true, true, true, true, true, true, true, true, true, false, false, false, false, false, false] rfl rfl (one_of HT_.out (by kernel_rfl)) (by decide) (fun K hK => ?_)
             refine goes_ Tryd.func25 (by kernel_rfl) rfl #[.string (rdOf ByteArray.empty t202 2), .slice Ao36 y208.length co36] (by rfl) rfl rfl qa_ ?_
             with_reducible refine (date_digits.calls kj10 (rdOf ByteArray.empty t202 2) _ _ y208 t211 _ ?side1 ?side2 A24.out).mono ?_
             (case side1 => repeat (first | exact (Kd.R_reads' HO210.out).2.2 | (with_reducible refine Kd.C_alloc ?_ _) | (with_reducible refine Kd.C_drewN ?_ _) | (with_reducible refine Kd.C_drew ?_)))
             (case side2 => exact (Kd.R_reads' HO210.out).2.1)
             rintro e w' ⟨rfl, ⟨nd, rfl⟩⟩
             refine ⟨_, rfl, ?_⟩
             refine hK.out _ _ ⟨hHeld.1, hHeld.2⟩ (fun hHeld => ?_)
             clear hK K
             refine norm_ (a' := ?_) ?_ ?_
             rotate_left
             ·show Act.put _ (some 42) _ = _
              simp only [Act.put, List.setIfInBounds_toArray, List.set_cons_zero, List.set_cons_succ, i64_w, i32_w]
              rfl
             exact norm_ (by simp only [putAll, Act.put, List.setIfInBounds_toArray, List.set_cons_zero, List.set_cons_succ]) (hCont (.slice Ao36 y208.length co36, v214) _ ⟨hHeld, (ql_ HO204.out), (by (with_reducible repeat (first | apply Kd.R_alloc | apply Kd.R_drewN | apply Kd.R_drew)); exact Kd.R_mono HO210.out (fun _ hk => hk.2)), (by (with_reducible repeat (first | apply Kd.R_alloc | apply Kd.R_drewN | apply Kd.R_drew)); exact Kd.R_mono HO215.out (fun _ hk => hk.2)), (qb_ HB.out)⟩)
           ·skip
            refine Kd.R_lit_step (Kd.int .i64) _ 3 ?hg (N := 47) ?hd (xs := ([1, 2] : List Int)) (inner := [.int .i64 1, .int .i64 2]) (ok := fun _ => True) (okp := fun _ => True) ?hr ?hp (fun _ hk => hk) trivial (Below.refl _ _) (Nat.le_refl _) (by simp) ?_; (case hd => rfl); (case hg => rfl); (case hr => first | (go_simp; done) | (go_simp; rfl)); (case hp => exact (Reps.one (show Kd.M (Kd.int .i64) _ _ _ 1 [.int .i64 1] from rfl) (Reps.one (show Kd.M (Kd.int .i64) _ _ _ 2 [.int .i64 2] from rfl) (Reps.none _ _))))
            intro v214 w32 ho33 hb hg_ hnew_
            have HS0_ := (hb.cell (World.block_lt_of_cell? _ _ (hHeld.1))).trans (hHeld.1)
            have HS1_ := (hb.cell (World.block_lt_of_cell? _ _ (hHeld.2))).trans (hHeld.2)
            clear hg_ hnew_
            (first | rw [← Ny213.out] at ho33 | (simp only [Int.reduceToNat] at ho33; rw [← Ny213.out] at ho33))
            have n0_ := Aside0.mk (Kd.R_below (ql_ HO204.out) hb)
            have n1_ := Aside0.mk (Kd.R_lower ho33 (below_size (qb_ HB.out)))
            have n2_ := Aside0.mk (below_step (qb_ HB.out) hb)
            clear HO204
            clear HB
            have HO204 := n0_
            have HO215 := n1_
            have HB := n2_
            clear n0_ n1_ n2_
            clear hb ho33
            refine hK.out _ _ ⟨HS0_, HS1_⟩ (fun hHeld => ?_)
            clear hK K
            refine norm_ (a' := ?_) ?_ ?_
            rotate_left
            ·show Act.put _ (some 47) _ = _
             simp only [Act.put, List.setIfInBounds_toArray, List.set_cons_zero, List.set_cons_succ, i64_w, i32_w]
             rfl
            refine one_ (i := 3) (N := some 41) #[true, true, true, true, false, true, true, true, true, true, false, false, false, false, false, false] rfl rfl (one_of HT_.out (by kernel_rfl)) (by decide) (fun K hK => ?_)
            refine Kd.R_lit_step (Kd.int .i64) _ 3 ?hg (N := 41) ?hd (xs := ([4] : List Int)) (inner := [.int .i64 4]) (ok := fun _ => True) (okp := fun _ => True) ?hr ?hp (fun _ hk => hk) trivial (Below.refl _ _) (Nat.le_refl _) (by simp) ?_; (case hd => rfl); (case hg => rfl); (case hr => first | (go_simp; done) | (go_simp; rfl)); (case hp => exact (Reps.one (show Kd.M (Kd.int .i64) _ _ _ 4 [.int .i64 4] from rfl) (Reps.none _ _)))
            intro v209 w34 ho35 hb hg_ hnew_
            have HS0_ := (hb.cell (World.block_lt_of_cell? _ _ (hHeld.1))).trans (hHeld.1)
            have HS1_ := (hb.cell (World.block_lt_of_cell? _ _ (hHeld.2))).trans (hHeld.2)
            clear hg_ hnew_
            (first | rw [← Ny208.out] at ho35 | (simp only [Int.reduceToNat] at ho35; rw [← Ny208.out] at ho35))
            have n0_ := Aside0.mk (Kd.R_below (ql_ HO204.out) hb)
            have n1_ := Aside0.mk (Kd.R_elder' (ql_ HO215.out) (Kd.R_base ho35) hb)
            have n2_ := Aside0.mk (Kd.R_lower (Kd.R_new' ho35 (Kd.R_lt (ql_ HO215.out))) (below_size (qb_ HB.out)))
            have n3_ := Aside0.mk (below_step (qb_ HB.out) hb)
            clear HO204
            clear HO215
            clear HB
            have HO204 := n0_
            have HO215 := n1_
            have HO210 := n2_
            have HB := n3_
            clear n0_ n1_ n2_ n3_
            clear hb ho35
            obtain ⟨Ao36, co36, eo36⟩ := Kd.R_slice HO210.out
            (first | subst eo36 | (injection eo36 with f1_ f2_ f3_; have f4_ := f1_.symm; have f5_ := f3_.symm; clear f1_ f2_ f3_; subst f4_; subst f5_))
            refine hK.out _ _ ⟨HS0_, HS1_⟩ (fun hHeld => ?_)
            clear hK K
            refine norm_ (a' := ?_) ?_ ?_
            rotate_left
            ·show Act.put _ (some 41) _ = _
             simp only [Act.put, List.setIfInBounds_toArray, List.set_cons_zero, List.set_cons_succ, i64_w, i32_w]
             rfl
            refine one_ (i := 4) (N := some 42) #[true, true, true, true, true, true, true, true, true, true, false, false, false, false, false, false] rfl rfl (one_of HT_.out (by kernel_rfl)) (by decide) (fun K hK => ?_)
            refine goes_ Tryd.func25 (by kernel_rfl) rfl #[.string (rdOf ByteArray.empty t202 2), .slice Ao36 y208.length co36] (by rfl) rfl rfl qa_ ?_
            with_reducible refine (date_digits.calls kj10 (rdOf ByteArray.empty t202 2) _ _ y208 t211 _ ?side1 ?side2 A24.out).mono ?_
            (case side1 => repeat (first | exact (Kd.R_reads' HO210.out).2.2 | (with_reducible refine Kd.C_alloc ?_ _) | (with_reducible refine Kd.C_drewN ?_ _) | (with_reducible refine Kd.C_drew ?_)))
            (case side2 => exact (Kd.R_reads' HO210.out).2.1)
            rintro e w' ⟨rfl, ⟨nd, rfl⟩⟩
            refine ⟨_, rfl, ?_⟩
            refine hK.out _ _ ⟨hHeld.1, hHeld.2⟩ (fun hHeld => ?_)
            clear hK K
            refine norm_ (a' := ?_) ?_ ?_
            rotate_left
            ·show Act.put _ (some 42) _ = _
             simp only [Act.put, List.setIfInBounds_toArray, List.set_cons_zero, List.set_cons_succ, i64_w, i32_w]
             rfl
            exact norm_ (by simp only [putAll, Act.put, List.setIfInBounds_toArray, List.set_cons_zero, List.set_cons_succ]) (hCont (.slice Ao36 y208.length co36, v214) _ ⟨hHeld, (ql_ HO204.out), (by (with_reducible repeat (first | apply Kd.R_alloc | apply Kd.R_drewN | apply Kd.R_drew)); exact Kd.R_mono HO210.out (fun _ hk => hk.2)), (by (with_reducible repeat (first | apply Kd.R_alloc | apply Kd.R_drewN | apply Kd.R_drew)); exact Kd.R_mono HO215.out (fun _ hk => hk.2)), (qb_ HB.out)⟩)
          rintro ⟨v209, v214⟩ w37 ⟨hS_, h0_, h1_, h2_, h3_⟩
          have n0_ : Aside0 (Kd.R Kd.string 9 w37 w.heap.size (fun _ => True) (.slice (some ad205) t202.length co29) t202) := ⟨h0_⟩
          have n1_ : Aside0 (Kd.R (Kd.int .i64) 3 w37 w.heap.size (fun k_ => some k_ ≠ (v214 : Value).ownBlock) v209 y208) := ⟨h1_⟩
          have n2_ : Aside0 (Kd.R (Kd.int .i64) 3 w37 w.heap.size (fun k_ => some k_ ≠ (v209 : Value).ownBlock) v214 y213) := ⟨h2_⟩
          have n3_ : Aside0 (Below w.heap.size w w37) := ⟨h3_⟩
          clear HO204
          clear HB
          clear h0_ h1_ h2_ h3_
          have HO204 := n0_
          have HO210 := n1_
          have HO215 := n2_
          have HB := n3_
          clear n0_ n1_ n2_ n3_
          have hHeld : w37.cell? ⟨ad205.block, ad205.off + 2, none⟩ = some (.string (rdOf ByteArray.empty t202 2)) ∧ w37.cell? ad205 = some (.string (rdOf ByteArray.empty t202 0)) := hS_
          obtain ⟨Ao38, co38, eo38⟩ := Kd.R_slice HO215.out
          (first | subst eo38 | (injection eo38 with f1_ f2_ f3_; have f4_ := f1_.symm; have f5_ := f3_.symm; clear f1_ f2_ f3_; subst f4_; subst f5_))
          refine norm_ (a' := ?_) ?_ ?_
          rotate_left
          ·simp only [putAll, Act.put, List.setIfInBounds_toArray, List.set_cons_zero, List.set_cons_succ]
           rfl
          refine one_ (i := 10) (N := some 48) #[true, true, true, true, true, true, true, true, true, true, true, false, false, false, false, false] rfl rfl (one_of HT_.out (by kernel_rfl)) (by decide) (fun K hK => ?_)
          refine goes_ Tryd.func25 (by kernel_rfl) rfl #[.string (rdOf ByteArray.empty t202 0), .slice Ao38 y213.length co38] (by rfl) rfl rfl qa_ ?_
          with_reducible refine (date_digits.calls kj10 (rdOf ByteArray.empty t202 0) _ _ y213 t216 _ ?side1 ?side2 A26.out).mono ?_
          (case side1 => repeat (first | exact (Kd.R_reads' HO215.out).2.2 | (with_reducible refine Kd.C_alloc ?_ _) | (with_reducible refine Kd.C_drewN ?_ _) | (with_reducible refine Kd.C_drew ?_)))
          (case side2 => exact (Kd.R_reads' HO215.out).2.1)
          rintro e w' ⟨rfl, ⟨nd, rfl⟩⟩
          refine ⟨_, rfl, ?_⟩
          refine hK.out _ _ ⟨hHeld.1, hHeld.2⟩ (fun hHeld => ?_)
          clear hK K
          refine norm_ (a' := ?_) ?_ ?_
          rotate_left
          ·show Act.put _ (some 48) _ = _
           simp only [Act.put, List.setIfInBounds_toArray, List.set_cons_zero, List.set_cons_succ, i64_w, i32_w]
           rfl
          refine one_ (i := 11) (N := some 49) #[true, true, true, true, true, true, true, true, true, true, true, true, false, false, false, false] rfl rfl (one_of HT_.out (by kernel_rfl)) (by decide) (fun K hK => ?_)
          refine goes_ Tryd.func23 (by kernel_rfl) rfl #[.int .i64 t211, .int .i64 t206, .int .i64 t216] (by rfl) rfl rfl qa_ ?_
          with_reducible refine (date_number.calls kj10 t211 t206 t216 t217 t218 _ A27.out).mono ?_
          rintro e w' ⟨rfl, ⟨nd, rfl⟩⟩
          refine ⟨_, rfl, ?_⟩
          refine hK.out _ _ ⟨hHeld.1, hHeld.2⟩ (fun hHeld => ?_)
          clear hK K
          refine norm_ (a' := ?_) ?_ ?_
          rotate_left
          ·show Act.put _ (some 49) _ = _
           simp only [Act.put, List.setIfInBounds_toArray, List.set_cons_zero, List.set_cons_succ, i64_w, i32_w]
           rfl
          refine pure_ (i := 12) (N := some 50) (v := ?_) (a' := ?_) #[true, true, true, true, true, true, true, true, true, true, true, true, true, false, false, false] rfl rfl (any_of HT_.out (by kernel_rfl)) (fun _ _ _ h => h) (Or.inl ⟨by rfl, ?_⟩) ?_ ?_
          rotate_left
          ·intro w'
           go_simp
           with_reducible rfl
          rotate_left
          ·simp only [Act.put, List.setIfInBounds_toArray, List.set_cons_zero, List.set_cons_succ, i64_w, i32_w]
           rfl
          refine pure_ (i := 13) (N := some 51) (v := ?_) (a' := ?_) #[true, true, true, true, true, true, true, true, true, true, true, true, true, true, false, false] rfl rfl (any_of HT_.out (by kernel_rfl)) (fun _ _ _ h => h) (Or.inl ⟨by rfl, ?_⟩) ?_ ?_
          rotate_left
          ·intro w'
           go_simp
           with_reducible rfl
          rotate_left
          ·simp only [Act.put, List.setIfInBounds_toArray, List.set_cons_zero, List.set_cons_succ, i64_w, i32_w]
           rfl
          refine pure_ (i := 14) (N := some 2) (v := ?_) (a' := ?_) #[true, true, true, true, true, true, true, true, true, true, true, true, true, true, true, false] rfl rfl (any_of HT_.out (by kernel_rfl)) (fun _ _ _ h => h) (Or.inl ⟨by rfl, ?_⟩) ?_ ?_
          rotate_left
          ·intro w'
           go_simp
           with_reducible rfl
          rotate_left
          ·simp only [Act.put, List.setIfInBounds_toArray, List.set_cons_zero, List.set_cons_succ, i64_w, i32_w]
           rfl
          refine pure_ (i := 15) (N := some 3) (v := ?_) (a' := ?_) #[true, true, true, true, true, true, true, true, true, true, true, true, true, true, true, true] rfl rfl (any_of HT_.out (by kernel_rfl)) (fun _ _ _ h => h) (Or.inl ⟨by rfl, ?_⟩) ?_ ?_
          rotate_left
          ·intro w'
           go_simp
           with_reducible rfl
          rotate_left
          ·simp only [Act.put, List.setIfInBounds_toArray, List.set_cons_zero, List.set_cons_succ, i64_w, i32_w]
           rfl
          refine done_ (done_of HT_.out (by kernel_rfl)) ?_
          try go_wp2
          go_ret2
          exact ⟨qw_, qb_ HB.out⟩
         ·rw [if_neg c25] at H
          exact absurd H (by simp)
        ·rw [if_neg c23] at H
         exact absurd H (by simp)
      ·rw [if_neg c17] at H
       exact absurd H (by simp)
     ·rw [if_neg c16] at H
      have c16b0 : ((t202.length : Int) == 3) = false := beq_eq_false_iff_ne.mpr c16
      have c16b1 : ((t202.length : Int) != 3) = true := bne_iff_ne.mpr c16
      simp only [Option.some.injEq, Prod.mk.injEq] at H
      obtain ⟨rfl, rfl⟩ := H
      go_wp2_with (first | ((with_reducible refine gate_callee (f := 36) rfl ?_); refine goesL_ (some 28) rfl rfl Tryd.func36 (by kernel_rfl) rfl #[.string x0_10, .string (⟨#[45]⟩ : ByteArray)] rfl qa_ ?_; (with_reducible refine (strings_Split.calls x0_10 (⟨#[45]⟩ : ByteArray) t202 _ A15.out).mono ?_); rintro e w39 ⟨v203, rfl, ho0, hb⟩; refine ⟨_, rfl, ?_⟩; have n0_ := Aside0.mk (Kd.R_lower ho0 (below_size (qb_ HB.out))); have n1_ := Aside0.mk (below_step (qb_ HB.out) hb); clear HB; have HO204 := n0_; have HB := n1_; clear n0_ n1_; (try clear hb); (try clear hb2); (try clear hk); (try clear hi); (try clear ho0); obtain ⟨Ao40, co40, eo40⟩ := Kd.R_slice HO204.out; subst eo40))
      go_ret2
      exact ⟨qw_, qb_ HB.out⟩

/-! ### date_floor: function 38 -/
def date_floor.f (a0 : Int) (a1 : Int) : Option (Int) := if a1 = 0 then (none) else (if (Int.tmod a0 a1) < 0 then (some (wrap64 ((wrap64 (Int.tdiv a0 a1)) - 1))) else (some (wrap64 (Int.tdiv a0 a1))))
set_option maxHeartbeats 8000000 in
set_option maxRecDepth 100000 in
theorem date_floor.calls (a0 : Int) (a1 : Int) (r : Int) (w : World) (h : date_floor.f a0 a1 = some r) :
  Calls Tryd.prog 38 #[.int .i64 a0, .int .i64 a1] w fun e w' => e = .returned (.int .i64 r) ∧ Drawn0 w w' := by
 have H : (if a1 = 0 then (none) else (if (Int.tmod a0 a1) < 0 then (some (wrap64 ((wrap64 (Int.tdiv a0 a1)) - 1))) else (some (wrap64 (Int.tdiv a0 a1))))) = some r := h
 clear h
 by_cases c3 : a1 = 0
 ·rw [if_pos c3] at H
  exact absurd H (by simp)
 ·rw [if_neg c3] at H
  have c3b0 : (a1 == 0) = false := beq_eq_false_iff_ne.mpr c3
  have c3b1 : (a1 != 0) = true := bne_iff_ne.mpr c3
  by_cases c4 : (Int.tmod a0 a1) < 0
  ·rw [if_pos c4] at H
   have c4b0 : decide ((Int.tmod a0 a1) < 0) = true := decide_eq_true c4
   clear c4
   obtain rfl := Option.some.inj H
   go_enter Tryd.func38, Tryd.ntmps38
   go_wp2
   go_ret
   exact ⟨by first | rfl | (simp; done) | (simp [*]; done), by repeat (first | exact Drawn0.refl _ | apply Drawn0.step)⟩
  ·rw [if_neg c4] at H
   have c4b0 : decide ((Int.tmod a0 a1) < 0) = false := decide_eq_false c4
   clear c4
   obtain rfl := Option.some.inj H
   go_enter Tryd.func38, Tryd.ntmps38
   go_wp2
   go_ret
   exact ⟨by first | rfl | (simp; done) | (simp [*]; done), by repeat (first | exact Drawn0.refl _ | apply Drawn0.step)⟩

end Go.Proofs.YtmbiggcapakjjaaDoor.P
