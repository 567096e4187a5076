-- Written by a program of this session (wip/tools/mk.sh) for this claim: it runs the kit's print with contracts of our own. Lean checks it.
import Derived.Test.YtbjbagocnnffaaaDoorPx0
import Derived.Test.YtbjbagocnnffaaaDoorWRepsOne
import Derived.Test.YtbjbagocnnffaaaDoorZStr
namespace Go.Proofs.YtbjbagocnnffaaaDoor.P
open Go.RowKit Go.Proofs.YtbjbagocnnffaaaDoorW.PrintWords Go.Proofs.YtbjbagocnnffaaaDoorW.PrintLast Go.Proofs.YtbjbagocnnffaaaDoorW.PrintMore
attribute [-simp] Int.tmod_tmod_of_dvd
attribute [local go_sem] max2_int min2_int max_two min_two max_three min_three max_four min_four   -- for this text's walks alone
set_option linter.unusedVariables false
set_option linter.unusedSimpArgs false

/-! ### letterboxref07_Quoted: function 45 -/
def letterboxref07_Quoted.l0 : Nat → ByteArray → ByteArray → Int → Option (ByteArray)
 | 0, _, _, _ => none
 | k + 1, x0, x3, x4 => if x4 < (x0.size : Int) then (if 0 ≤ x4 then (if (bt x0 x4) = 34 then (if x3.size + 1 ≤ 9223372036854775807 then (if x4 ≤ (wrap64 (x4 + 1)) then (if (wrap64 (x4 + 1)) ≤ (x0.size : Int) then (if (x3 ++ (⟨#[92]⟩ : ByteArray)).size + (x0.extract (x4 : Int).toNat ((wrap64 (x4 + 1)) : Int).toNat).size ≤ 9223372036854775807 then (letterboxref07_Quoted.l0 k x0 ((x3 ++ (⟨#[92]⟩ : ByteArray)) ++ (x0.extract (x4 : Int).toNat ((wrap64 (x4 + 1)) : Int).toNat)) (wrap64 (x4 + 1))) else (none)) else (none)) else (none)) else (none)) else (if (bt x0 x4) = 92 then (if x3.size + 1 ≤ 9223372036854775807 then (if x4 ≤ (wrap64 (x4 + 1)) then (if (wrap64 (x4 + 1)) ≤ (x0.size : Int) then (if (x3 ++ (⟨#[92]⟩ : ByteArray)).size + (x0.extract (x4 : Int).toNat ((wrap64 (x4 + 1)) : Int).toNat).size ≤ 9223372036854775807 then (letterboxref07_Quoted.l0 k x0 ((x3 ++ (⟨#[92]⟩ : ByteArray)) ++ (x0.extract (x4 : Int).toNat ((wrap64 (x4 + 1)) : Int).toNat)) (wrap64 (x4 + 1))) else (none)) else (none)) else (none)) else (none)) else (if x4 ≤ (wrap64 (x4 + 1)) then (if (wrap64 (x4 + 1)) ≤ (x0.size : Int) then (if x3.size + (x0.extract (x4 : Int).toNat ((wrap64 (x4 + 1)) : Int).toNat).size ≤ 9223372036854775807 then (letterboxref07_Quoted.l0 k x0 (x3 ++ (x0.extract (x4 : Int).toNat ((wrap64 (x4 + 1)) : Int).toNat)) (wrap64 (x4 + 1))) else (none)) else (none)) else (none)))) else (none)) else (if x3.size + 1 ≤ 9223372036854775807 then (some (x3 ++ (⟨#[34]⟩ : ByteArray))) else (none))
def letterboxref07_Quoted.f (k : Nat) (a0 : ByteArray) : Option (ByteArray) := letterboxref07_Quoted.l0 k a0 (⟨#[34]⟩ : ByteArray) 0
theorem letterboxref07_Quoted.mono_l : ∀ k, (∀ y0 y1 y2, LeO (letterboxref07_Quoted.l0 k y0 y1 y2) (letterboxref07_Quoted.l0 (k + 1) y0 y1 y2))
 | 0 => fun _ _ _ r h => by simp [letterboxref07_Quoted.l0] at h
 | k + 1 => by
  have ih0 := letterboxref07_Quoted.mono_l k
  ·intro y0 y1 y2
   unfold letterboxref07_Quoted.l0
   repeat' first
   | (with_reducible exact ih0 _ _ _)
   | (with_reducible exact LeO.refl _)
   | (with_reducible exact LeO.none _)
   | (with_reducible refine LeO.ite ?_ ?_)
   | (with_reducible refine LeO.bind ?_ (fun _ => ?_))
   | exact ih0 _ _ _
   | exact LeO.none _
   | refine LeO.ite ?_ ?_
   | refine LeO.bind ?_ (fun _ => ?_)
theorem letterboxref07_Quoted.mono : ∀ a0 k, LeO (letterboxref07_Quoted.f k a0) (letterboxref07_Quoted.f (k + 1) a0) := by
 intro a0 k
 have ih0 := letterboxref07_Quoted.mono_l k
 unfold letterboxref07_Quoted.f
 repeat' first
   | (with_reducible exact ih0 _ _ _)
   | (with_reducible exact LeO.refl _)
   | (with_reducible exact LeO.none _)
   | (with_reducible refine LeO.ite ?_ ?_)
   | (with_reducible refine LeO.bind ?_ (fun _ => ?_))
   | exact ih0 _ _ _
   | exact LeO.none _
   | refine LeO.ite ?_ ?_
   | refine LeO.bind ?_ (fun _ => ?_)
set_option maxHeartbeats 8000000 in
set_option maxRecDepth 100000 in
theorem letterboxref07_Quoted.calls (k : Nat) (a0 : ByteArray) (r : ByteArray) (w : World) (h : letterboxref07_Quoted.f k a0 = some r) :
  Calls Tryd.prog 45 #[.string a0] w fun e w' => e = .returned (.string r) ∧ Drawn0 w w' := by
 have H : (letterboxref07_Quoted.l0 k a0 (⟨#[34]⟩ : ByteArray) 0) = some r := h
 clear h
 have H' := Aside0.mk H
 clear H
 go_enter Tryd.func45, Tryd.ntmps45
 go_wp2
 go_loopg [3, 4] k (fun kq v3 v4 w' => ∃ (x3_1 : ByteArray) (x4_1 : Int), v3 = .string x3_1 ∧ v4 = .int .i64 x4_1 ∧ Aside0 (letterboxref07_Quoted.l0 kq a0 x3_1 x4_1 = some r) ∧ Aside0 (kq ≤ k) ∧ Drawn0 w w')
 case atStart => exact ⟨((⟨#[34]⟩ : ByteArray)), (0), qr_, qr_, H', ⟨Nat.le_refl _⟩, by repeat (first | exact Drawn0.refl _ | apply Drawn0.step)⟩
 case round =>
  clear H'
  obtain ⟨x3_1, x4_1, rfl, rfl, HA, HK1, ⟨m1, rfl⟩⟩ := hrel
  cases gk with
  | zero => exact absurd HA.out (by simp [letterboxref07_Quoted.l0])
  | succ k1 =>
   have H := HA.out
   clear HA
   simp only [letterboxref07_Quoted.l0] at H
   by_cases c2 : x4_1 < (a0.size : Int)
   ·rw [if_pos c2] at H
    have c2b0 : decide (x4_1 < (a0.size : Int)) = true := decide_eq_true c2
    clear c2
    by_cases c3 : 0 ≤ x4_1
    ·rw [if_pos c3] at H
     have c3b0 : decide (0 ≤ x4_1) = true := decide_eq_true c3
     clear c3
     by_cases c5 : (bt a0 x4_1) = 34
     ·rw [if_pos c5] at H
      have c5b0 : ((bt a0 x4_1) == 34) = true := beq_iff_eq.mpr c5
      have c5b1 : ((bt a0 x4_1) != 34) = false := bne_eq_false_iff_eq.mpr c5
      clear c5
      by_cases c6 : x3_1.size + 1 ≤ 9223372036854775807
      ·rw [if_pos c6] at H
       have c6b0 := eq_true c6
       have c6b1 : decide (x3_1.size + 1 ≤ 9223372036854775807) = true := decide_eq_true c6
       try have c6b2 : (9223372036854775807 < x3_1.size + 1) = False := eq_false (Nat.not_lt.2 c6)
       have c7b0 := eq_true (qd_ : 0 ≤ x4_1)
       by_cases c8 : x4_1 ≤ (wrap64 (x4_1 + 1))
       ·rw [if_pos c8] at H
        have c8b0 := eq_true c8
        have c8b1 : decide (x4_1 ≤ (wrap64 (x4_1 + 1))) = true := decide_eq_true c8
        by_cases c9 : (wrap64 (x4_1 + 1)) ≤ (a0.size : Int)
        ·rw [if_pos c9] at H
         have c9b0 := eq_true c9
         have c9b1 : decide ((wrap64 (x4_1 + 1)) ≤ (a0.size : Int)) = true := decide_eq_true c9
         by_cases c10 : (x3_1 ++ (⟨#[92]⟩ : ByteArray)).size + (a0.extract (x4_1 : Int).toNat ((wrap64 (x4_1 + 1)) : Int).toNat).size ≤ 9223372036854775807
         ·rw [if_pos c10] at H
          have c10b0 := eq_true c10
          have c10b1 : decide ((x3_1 ++ (⟨#[92]⟩ : ByteArray)).size + (a0.extract (x4_1 : Int).toNat ((wrap64 (x4_1 + 1)) : Int).toNat).size ≤ 9223372036854775807) = true := decide_eq_true c10
          try have c10b2 : (9223372036854775807 < (x3_1 ++ (⟨#[92]⟩ : ByteArray)).size + (a0.extract (x4_1 : Int).toNat ((wrap64 (x4_1 + 1)) : Int).toNat).size) = False := eq_false (Nat.not_lt.2 c10)
          (try (have c10h := c10; simp only [ByteArray.size_append, ByteArray.size_extract, Int.toNat_natCast, Nat.sub_zero, Nat.min_self, ByteArray.extract_zero_size, show (⟨#[92]⟩ : ByteArray).size = 1 from rfl] at c10h; have c10b7 := eq_false (Nat.not_lt.2 c10h); clear c10h))
          try have c10b5 : (9223372036854775807 < (x3_1.size + 1) + (((wrap64 (x4_1 + 1)) : Int).toNat - (x4_1 : Int).toNat)) = False := eq_false (Nat.not_lt.2 (by have h_ := c10; (try have e0_ : (wrap64 (x4_1 + 1)) ≤ (a0.size : Int) := qd_); simp only [ByteArray.size_append, ByteArray.size_extract, show (⟨#[92]⟩ : ByteArray).size = 1 from rfl] at h_ ⊢; omega))
          have H' := Aside0.mk H
          clear H
          have p4 : 0 ≤ (x4_1 : Int) := qd_
          have q4 : x4_1 < (a0.size : Int) := qd_
          have hx4 := bt_at a0 x4_1
          replace p4 := eq_true p4
          replace q4 := eq_true q4
          go_wp2
          go_roundg k1
          case measure => have := HK1.out; omega
          case rel => exact ⟨((x3_1 ++ (⟨#[92]⟩ : ByteArray)) ++ (a0.extract (x4_1 : Int).toNat ((wrap64 (x4_1 + 1)) : Int).toNat)), (wrap64 (x4_1 + 1)), qr_, qr_, H', ⟨by have := HK1.out; omega⟩, by repeat (first | exact Drawn0.refl _ | apply Drawn0.step)⟩
         ·rw [if_neg c10] at H
          exact absurd H (by simp)
        ·rw [if_neg c9] at H
         exact absurd H (by simp)
       ·rw [if_neg c8] at H
        exact absurd H (by simp)
      ·rw [if_neg c6] at H
       exact absurd H (by simp)
     ·rw [if_neg c5] at H
      have c5b0 : ((bt a0 x4_1) == 34) = false := beq_eq_false_iff_ne.mpr c5
      have c5b1 : ((bt a0 x4_1) != 34) = true := bne_iff_ne.mpr c5
      by_cases c12 : (bt a0 x4_1) = 92
      ·rw [if_pos c12] at H
       have c12b0 : ((bt a0 x4_1) == 92) = true := beq_iff_eq.mpr c12
       have c12b1 : ((bt a0 x4_1) != 92) = false := bne_eq_false_iff_eq.mpr c12
       clear c12
       by_cases c13 : x3_1.size + 1 ≤ 9223372036854775807
       ·rw [if_pos c13] at H
        have c13b0 := eq_true c13
        have c13b1 : decide (x3_1.size + 1 ≤ 9223372036854775807) = true := decide_eq_true c13
        try have c13b2 : (9223372036854775807 < x3_1.size + 1) = False := eq_false (Nat.not_lt.2 c13)
        have c14b0 := eq_true (qd_ : 0 ≤ x4_1)
        by_cases c15 : x4_1 ≤ (wrap64 (x4_1 + 1))
        ·rw [if_pos c15] at H
         have c15b0 := eq_true c15
         have c15b1 : decide (x4_1 ≤ (wrap64 (x4_1 + 1))) = true := decide_eq_true c15
         by_cases c16 : (wrap64 (x4_1 + 1)) ≤ (a0.size : Int)
         ·rw [if_pos c16] at H
          have c16b0 := eq_true c16
          have c16b1 : decide ((wrap64 (x4_1 + 1)) ≤ (a0.size : Int)) = true := decide_eq_true c16
          by_cases c17 : (x3_1 ++ (⟨#[92]⟩ : ByteArray)).size + (a0.extract (x4_1 : Int).toNat ((wrap64 (x4_1 + 1)) : Int).toNat).size ≤ 9223372036854775807
          ·rw [if_pos c17] at H
           have c17b0 := eq_true c17
           have c17b1 : decide ((x3_1 ++ (⟨#[92]⟩ : ByteArray)).size + (a0.extract (x4_1 : Int).toNat ((wrap64 (x4_1 + 1)) : Int).toNat).size ≤ 9223372036854775807) = true := decide_eq_true c17
           try have c17b2 : (9223372036854775807 < (x3_1 ++ (⟨#[92]⟩ : ByteArray)).size + (a0.extract (x4_1 : Int).toNat ((wrap64 (x4_1 + 1)) : Int).toNat).size) = False := eq_false (Nat.not_lt.2 c17)
           (try (have c17h := c17; simp only [ByteArray.size_append, ByteArray.size_extract, Int.toNat_natCast, Nat.sub_zero, Nat.min_self, ByteArray.extract_zero_size, show (⟨#[92]⟩ : ByteArray).size = 1 from rfl] at c17h; have c17b7 := eq_false (Nat.not_lt.2 c17h); clear c17h))
           try have c17b5 : (9223372036854775807 < (x3_1.size + 1) + (((wrap64 (x4_1 + 1)) : Int).toNat - (x4_1 : Int).toNat)) = False := eq_false (Nat.not_lt.2 (by have h_ := c17; (try have e0_ : (wrap64 (x4_1 + 1)) ≤ (a0.size : Int) := qd_); simp only [ByteArray.size_append, ByteArray.size_extract, show (⟨#[92]⟩ : ByteArray).size = 1 from rfl] at h_ ⊢; omega))
           have H' := Aside0.mk H
           clear H
           have p4 : 0 ≤ (x4_1 : Int) := qd_
           have q4 : x4_1 < (a0.size : Int) := qd_
           have hx4 := bt_at a0 x4_1
           replace p4 := eq_true p4
           replace q4 := eq_true q4
           have p11 : 0 ≤ (x4_1 : Int) := qd_
           have q11 : x4_1 < (a0.size : Int) := qd_
           have hx11 := bt_at a0 x4_1
           replace p11 := eq_true p11
           replace q11 := eq_true q11
           go_wp2
           go_roundg k1
           case measure => have := HK1.out; omega
           case rel => exact ⟨((x3_1 ++ (⟨#[92]⟩ : ByteArray)) ++ (a0.extract (x4_1 : Int).toNat ((wrap64 (x4_1 + 1)) : Int).toNat)), (wrap64 (x4_1 + 1)), qr_, qr_, H', ⟨by have := HK1.out; omega⟩, by repeat (first | exact Drawn0.refl _ | apply Drawn0.step)⟩
          ·rw [if_neg c17] at H
           exact absurd H (by simp)
         ·rw [if_neg c16] at H
          exact absurd H (by simp)
        ·rw [if_neg c15] at H
         exact absurd H (by simp)
       ·rw [if_neg c13] at H
        exact absurd H (by simp)
      ·rw [if_neg c12] at H
       have c12b0 : ((bt a0 x4_1) == 92) = false := beq_eq_false_iff_ne.mpr c12
       have c12b1 : ((bt a0 x4_1) != 92) = true := bne_iff_ne.mpr c12
       have c18b0 := eq_true (qd_ : 0 ≤ x4_1)
       by_cases c19 : x4_1 ≤ (wrap64 (x4_1 + 1))
       ·rw [if_pos c19] at H
        have c19b0 := eq_true c19
        have c19b1 : decide (x4_1 ≤ (wrap64 (x4_1 + 1))) = true := decide_eq_true c19
        by_cases c20 : (wrap64 (x4_1 + 1)) ≤ (a0.size : Int)
        ·rw [if_pos c20] at H
         have c20b0 := eq_true c20
         have c20b1 : decide ((wrap64 (x4_1 + 1)) ≤ (a0.size : Int)) = true := decide_eq_true c20
         by_cases c21 : x3_1.size + (a0.extract (x4_1 : Int).toNat ((wrap64 (x4_1 + 1)) : Int).toNat).size ≤ 9223372036854775807
         ·rw [if_pos c21] at H
          have c21b0 := eq_true c21
          have c21b1 : decide (x3_1.size + (a0.extract (x4_1 : Int).toNat ((wrap64 (x4_1 + 1)) : Int).toNat).size ≤ 9223372036854775807) = true := decide_eq_true c21
          try have c21b2 : (9223372036854775807 < x3_1.size + (a0.extract (x4_1 : Int).toNat ((wrap64 (x4_1 + 1)) : Int).toNat).size) = False := eq_false (Nat.not_lt.2 c21)
          (try (have c21h := c21; simp only [ByteArray.size_append, ByteArray.size_extract, Int.toNat_natCast, Nat.sub_zero, Nat.min_self, ByteArray.extract_zero_size] at c21h; have c21b7 := eq_false (Nat.not_lt.2 c21h); clear c21h))
          try have c21b5 : (9223372036854775807 < x3_1.size + (((wrap64 (x4_1 + 1)) : Int).toNat - (x4_1 : Int).toNat)) = False := eq_false (Nat.not_lt.2 (by have h_ := c21; (try have e0_ : (wrap64 (x4_1 + 1)) ≤ (a0.size : Int) := qd_); simp only [ByteArray.size_append, ByteArray.size_extract] at h_ ⊢; omega))
          have H' := Aside0.mk H
          clear H
          have p4 : 0 ≤ (x4_1 : Int) := qd_
          have q4 : x4_1 < (a0.size : Int) := qd_
          have hx4 := bt_at a0 x4_1
          replace p4 := eq_true p4
          replace q4 := eq_true q4
          have p11 : 0 ≤ (x4_1 : Int) := qd_
          have q11 : x4_1 < (a0.size : Int) := qd_
          have hx11 := bt_at a0 x4_1
          replace p11 := eq_true p11
          replace q11 := eq_true q11
          go_wp2
          go_roundg k1
          case measure => have := HK1.out; omega
          case rel => exact ⟨(x3_1 ++ (a0.extract (x4_1 : Int).toNat ((wrap64 (x4_1 + 1)) : Int).toNat)), (wrap64 (x4_1 + 1)), qr_, qr_, H', ⟨by have := HK1.out; omega⟩, by repeat (first | exact Drawn0.refl _ | apply Drawn0.step)⟩
         ·rw [if_neg c21] at H
          exact absurd H (by simp)
        ·rw [if_neg c20] at H
         exact absurd H (by simp)
       ·rw [if_neg c19] at H
        exact absurd H (by simp)
    ·rw [if_neg c3] at H
     exact absurd H (by simp)
   ·rw [if_neg c2] at H
    have c2b0 : decide (x4_1 < (a0.size : Int)) = false := decide_eq_false c2
    clear c2
    by_cases c22 : x3_1.size + 1 ≤ 9223372036854775807
    ·rw [if_pos c22] at H
     have c22b0 := eq_true c22
     have c22b1 : decide (x3_1.size + 1 ≤ 9223372036854775807) = true := decide_eq_true c22
     try have c22b2 : (9223372036854775807 < x3_1.size + 1) = False := eq_false (Nat.not_lt.2 c22)
     obtain rfl := Option.some.inj H
     go_wp2
     go_ret
     exact ⟨by first | rfl | (simp; done) | (simp [*]; done), by repeat (first | exact Drawn0.refl _ | apply Drawn0.step)⟩
    ·rw [if_neg c22] at H
     exact absurd H (by simp)

/-! ### letterboxref01_In: function 59 -/
def letterboxref01_In.l0 : Nat → ByteArray → Int → Int → Option (Bool)
 | 0, _, _, _ => none
 | k + 1, x0, x1, x5 => if x5 < (x0.size : Int) then (if 0 ≤ x5 then (if (bt x0 x5) = x1 then (some true) else (letterboxref01_In.l0 k x0 x1 (wrap64 (x5 + 1)))) else (none)) else (some false)
def letterboxref01_In.f (k : Nat) (a0 : ByteArray) (a1 : Int) : Option (Bool) := letterboxref01_In.l0 k a0 a1 0
theorem letterboxref01_In.mono_l : ∀ k, (∀ y0 y1 y2, LeO (letterboxref01_In.l0 k y0 y1 y2) (letterboxref01_In.l0 (k + 1) y0 y1 y2))
 | 0 => fun _ _ _ r h => by simp [letterboxref01_In.l0] at h
 | k + 1 => by
  have ih0 := letterboxref01_In.mono_l k
  ·intro y0 y1 y2
   unfold letterboxref01_In.l0
   repeat' first
   | (with_reducible exact ih0 _ _ _)
   | (with_reducible exact LeO.refl _)
   | (with_reducible exact LeO.none _)
   | (with_reducible refine LeO.ite ?_ ?_)
   | (with_reducible refine LeO.bind ?_ (fun _ => ?_))
   | exact ih0 _ _ _
   | exact LeO.none _
   | refine LeO.ite ?_ ?_
   | refine LeO.bind ?_ (fun _ => ?_)
theorem letterboxref01_In.mono : ∀ a0 a1 k, LeO (letterboxref01_In.f k a0 a1) (letterboxref01_In.f (k + 1) a0 a1) := by
 intro a0 a1 k
 have ih0 := letterboxref01_In.mono_l k
 unfold letterboxref01_In.f
 repeat' first
   | (with_reducible exact ih0 _ _ _)
   | (with_reducible exact LeO.refl _)
   | (with_reducible exact LeO.none _)
   | (with_reducible refine LeO.ite ?_ ?_)
   | (with_reducible refine LeO.bind ?_ (fun _ => ?_))
   | exact ih0 _ _ _
   | exact LeO.none _
   | refine LeO.ite ?_ ?_
   | refine LeO.bind ?_ (fun _ => ?_)
set_option maxHeartbeats 8000000 in
set_option maxRecDepth 100000 in
theorem letterboxref01_In.calls (k : Nat) (a0 : ByteArray) (a1 : Int) (r : Bool) (w : World) (h : letterboxref01_In.f k a0 a1 = some r) :
  Calls Tryd.prog 59 #[.string a0, .int .u8 a1] w fun e w' => e = .returned (.bool r) ∧ Drawn0 w w' := by
 have H : (letterboxref01_In.l0 k a0 a1 0) = some r := h
 clear h
 have H' := Aside0.mk H
 clear H
 go_enter Tryd.func59, Tryd.ntmps59
 go_wp2
 go_loopg [5] k (fun kq v5 w' => ∃ (x5_1 : Int), v5 = .int .i64 x5_1 ∧ Aside0 (letterboxref01_In.l0 kq a0 a1 x5_1 = some r) ∧ Aside0 (kq ≤ k) ∧ Drawn0 w w')
 case atStart => exact ⟨(0), qr_, H', ⟨Nat.le_refl _⟩, by repeat (first | exact Drawn0.refl _ | apply Drawn0.step)⟩
 case round =>
  clear H'
  obtain ⟨x5_1, rfl, HA, HK1, ⟨m1, rfl⟩⟩ := hrel
  cases gk with
  | zero => exact absurd HA.out (by simp [letterboxref01_In.l0])
  | succ k1 =>
   have H := HA.out
   clear HA
   simp only [letterboxref01_In.l0] at H
   by_cases c3 : x5_1 < (a0.size : Int)
   ·rw [if_pos c3] at H
    have c3b0 : decide (x5_1 < (a0.size : Int)) = true := decide_eq_true c3
    clear c3
    by_cases c4 : 0 ≤ x5_1
    ·rw [if_pos c4] at H
     have c4b0 : decide (0 ≤ x5_1) = true := decide_eq_true c4
     clear c4
     by_cases c6 : (bt a0 x5_1) = a1
     ·rw [if_pos c6] at H
      have c6b0 : ((bt a0 x5_1) == a1) = true := beq_iff_eq.mpr c6
      have c6b1 : ((bt a0 x5_1) != a1) = false := bne_eq_false_iff_eq.mpr c6
      clear c6
      obtain rfl := Option.some.inj H
      have p5 : 0 ≤ (x5_1 : Int) := qd_
      have q5 : x5_1 < (a0.size : Int) := qd_
      have hx5 := bt_at a0 x5_1
      replace p5 := eq_true p5
      replace q5 := eq_true q5
      go_wp2
      go_ret
      exact ⟨by first | rfl | (simp; done) | (simp [*]; done), by repeat (first | exact Drawn0.refl _ | apply Drawn0.step)⟩
     ·rw [if_neg c6] at H
      have c6b0 : ((bt a0 x5_1) == a1) = false := beq_eq_false_iff_ne.mpr c6
      have c6b1 : ((bt a0 x5_1) != a1) = true := bne_iff_ne.mpr c6
      have H' := Aside0.mk H
      clear H
      have p5 : 0 ≤ (x5_1 : Int) := qd_
      have q5 : x5_1 < (a0.size : Int) := qd_
      have hx5 := bt_at a0 x5_1
      replace p5 := eq_true p5
      replace q5 := eq_true q5
      go_wp2
      go_roundg k1
      case measure => have := HK1.out; omega
      case rel => exact ⟨(wrap64 (x5_1 + 1)), qr_, H', ⟨by have := HK1.out; omega⟩, by repeat (first | exact Drawn0.refl _ | apply Drawn0.step)⟩
    ·rw [if_neg c4] at H
     exact absurd H (by simp)
   ·rw [if_neg c3] at H
    have c3b0 : decide (x5_1 < (a0.size : Int)) = false := decide_eq_false c3
    clear c3
    obtain rfl := Option.some.inj H
    go_wp2
    go_ret
    exact ⟨by first | rfl | (simp; done) | (simp [*]; done), by repeat (first | exact Drawn0.refl _ | apply Drawn0.step)⟩

/-! ### letterboxref01_Atom: function 51 -/
def letterboxref01_Atom.f (k : Nat) (a0 : Int) : Option (Bool) := (letterboxref01_In.f k (⟨#[40, 41, 123, 37, 42, 34, 92, 93]⟩ : ByteArray) a0).bind fun t238 => (if a0 > 32 then (if a0 < 127 then (some (!t238)) else (some false)) else (some false))
theorem letterboxref01_Atom.mono : ∀ a0 k, LeO (letterboxref01_Atom.f k a0) (letterboxref01_Atom.f (k + 1) a0) := by
 intro a0 k
 unfold letterboxref01_Atom.f
 repeat' first
   | (with_reducible exact letterboxref01_In.mono _ _ _)
   | (with_reducible exact LeO.refl _)
   | (with_reducible exact LeO.none _)
   | (with_reducible refine LeO.ite ?_ ?_)
   | (with_reducible refine LeO.bind ?_ (fun _ => ?_))
   | exact letterboxref01_In.mono _ _ _
   | exact LeO.none _
   | refine LeO.ite ?_ ?_
   | refine LeO.bind ?_ (fun _ => ?_)
set_option maxHeartbeats 8000000 in
set_option maxRecDepth 100000 in
theorem letterboxref01_Atom.calls (k : Nat) (a0 : Int) (r : Bool) (w : World) (h : letterboxref01_Atom.f k a0 = some r) :
  Calls Tryd.prog 51 #[.int .u8 a0] w fun e w' => e = .returned (.bool r) ∧ Drawn0 w w' := by
 have H : ((letterboxref01_In.f k (⟨#[40, 41, 123, 37, 42, 34, 92, 93]⟩ : ByteArray) a0).bind fun t238 => (if a0 > 32 then (if a0 < 127 then (some (!t238)) else (some false)) else (some false))) = some r := h
 clear h
 replace H := Option.bind_eq_some_iff.mp H
 obtain ⟨t238, A20, H⟩ := H
 replace H : (if a0 > 32 then (if a0 < 127 then (some (!t238)) else (some false)) else (some false)) = some r := H
 have A2 := Aside0.mk A20
 clear A20
 by_cases c3 : a0 > 32
 ·rw [if_pos c3] at H
  have c3b0 : decide (32 < a0) = true := decide_eq_true c3
  clear c3
  by_cases c4 : a0 < 127
  ·rw [if_pos c4] at H
   have c4b0 : decide (a0 < 127) = true := decide_eq_true c4
   clear c4
   obtain rfl := Option.some.inj H
   go_enter Tryd.func51, Tryd.ntmps51
   go_wp2_with (first | ((with_reducible refine gate_callee (f := 59) rfl ?_); refine goesL_ (some 5) rfl rfl Tryd.func59 (by kernel_rfl) rfl #[.string (⟨#[40, 41, 123, 37, 42, 34, 92, 93]⟩ : ByteArray), .int .u8 a0] rfl qa_ ?_; (with_reducible refine (letterboxref01_In.calls k (⟨#[40, 41, 123, 37, 42, 34, 92, 93]⟩ : ByteArray) a0 t238 _ A2.out).mono ?_); rintro e w' ⟨rfl, ⟨nd, rfl⟩⟩; refine ⟨_, rfl, ?_⟩))
   go_ret
   exact ⟨by first | rfl | (simp; done) | (simp [*]; done), by repeat (first | exact Drawn0.refl _ | apply Drawn0.step)⟩
  ·rw [if_neg c4] at H
   have c4b0 : decide (a0 < 127) = false := decide_eq_false c4
   clear c4
   obtain rfl := Option.some.inj H
   go_enter Tryd.func51, Tryd.ntmps51
   go_wp2_with (first | ((with_reducible refine gate_callee (f := 59) rfl ?_); refine goesL_ (some 5) rfl rfl Tryd.func59 (by kernel_rfl) rfl #[.string (⟨#[40, 41, 123, 37, 42, 34, 92, 93]⟩ : ByteArray), .int .u8 a0] rfl qa_ ?_; (with_reducible refine (letterboxref01_In.calls k (⟨#[40, 41, 123, 37, 42, 34, 92, 93]⟩ : ByteArray) a0 t238 _ A2.out).mono ?_); rintro e w' ⟨rfl, ⟨nd, rfl⟩⟩; refine ⟨_, rfl, ?_⟩))
   go_ret
   exact ⟨by first | rfl | (simp; done) | (simp [*]; done), by repeat (first | exact Drawn0.refl _ | apply Drawn0.step)⟩
 ·rw [if_neg c3] at H
  have c3b0 : decide (32 < a0) = false := decide_eq_false c3
  clear c3
  obtain rfl := Option.some.inj H
  go_enter Tryd.func51, Tryd.ntmps51
  go_wp2_with (first | ((with_reducible refine gate_callee (f := 59) rfl ?_); refine goesL_ (some 5) rfl rfl Tryd.func59 (by kernel_rfl) rfl #[.string (⟨#[40, 41, 123, 37, 42, 34, 92, 93]⟩ : ByteArray), .int .u8 a0] rfl qa_ ?_; (with_reducible refine (letterboxref01_In.calls k (⟨#[40, 41, 123, 37, 42, 34, 92, 93]⟩ : ByteArray) a0 t238 _ A2.out).mono ?_); rintro e w' ⟨rfl, ⟨nd, rfl⟩⟩; refine ⟨_, rfl, ?_⟩))
  go_ret
  exact ⟨by first | rfl | (simp; done) | (simp [*]; done), by repeat (first | exact Drawn0.refl _ | apply Drawn0.step)⟩

/-! ### letterboxref15_name: function 35 -/
def letterboxref15_name.l0 : Nat → ByteArray → Bool → Int → Option (ByteArray)
 | 0, _, _, _ => none
 | k + 1, x0, x3, x4 => if x4 < (x0.size : Int) then (if 0 ≤ x4 then ((letterboxref01_Atom.f k (bt x0 x4)).bind fun t239 => (if x3 = true then (letterboxref15_name.l0 k x0 t239 (wrap64 (x4 + 1))) else (letterboxref15_name.l0 k x0 false (wrap64 (x4 + 1))))) else (none)) else (if x3 = true then (some x0) else ((letterboxref07_Quoted.f k x0).bind fun t240 => (some t240)))
def letterboxref15_name.f (k : Nat) (a0 : ByteArray) : Option (ByteArray) := letterboxref15_name.l0 k a0 (a0.toList != ([] : List UInt8)) 0
theorem letterboxref15_name.mono_l : ∀ k, (∀ y0 y1 y2, LeO (letterboxref15_name.l0 k y0 y1 y2) (letterboxref15_name.l0 (k + 1) y0 y1 y2))
 | 0 => fun _ _ _ r h => by simp [letterboxref15_name.l0] at h
 | k + 1 => by
  have ih0 := letterboxref15_name.mono_l k
  ·intro y0 y1 y2
   unfold letterboxref15_name.l0
   repeat' first
   | (with_reducible exact ih0 _ _ _)
   | (with_reducible exact letterboxref01_Atom.mono _ _)
   | (with_reducible exact letterboxref07_Quoted.mono _ _)
   | (with_reducible exact LeO.refl _)
   | (with_reducible exact LeO.none _)
   | (with_reducible refine LeO.ite ?_ ?_)
   | (with_reducible refine LeO.bind ?_ (fun _ => ?_))
   | exact ih0 _ _ _
   | exact letterboxref01_Atom.mono _ _
   | exact letterboxref07_Quoted.mono _ _
   | exact LeO.none _
   | refine LeO.ite ?_ ?_
   | refine LeO.bind ?_ (fun _ => ?_)
theorem letterboxref15_name.mono : ∀ a0 k, LeO (letterboxref15_name.f k a0) (letterboxref15_name.f (k + 1) a0) := by
 intro a0 k
 have ih0 := letterboxref15_name.mono_l k
 unfold letterboxref15_name.f
 repeat' first
   | (with_reducible exact ih0 _ _ _)
   | (with_reducible exact letterboxref01_Atom.mono _ _)
   | (with_reducible exact letterboxref07_Quoted.mono _ _)
   | (with_reducible exact LeO.refl _)
   | (with_reducible exact LeO.none _)
   | (with_reducible refine LeO.ite ?_ ?_)
   | (with_reducible refine LeO.bind ?_ (fun _ => ?_))
   | exact ih0 _ _ _
   | exact letterboxref01_Atom.mono _ _
   | exact letterboxref07_Quoted.mono _ _
   | exact LeO.none _
   | refine LeO.ite ?_ ?_
   | refine LeO.bind ?_ (fun _ => ?_)
set_option maxHeartbeats 8000000 in
set_option maxRecDepth 100000 in
theorem letterboxref15_name.calls (k : Nat) (a0 : ByteArray) (r : ByteArray) (w : World) (h : letterboxref15_name.f k a0 = some r) :
  Calls Tryd.prog 35 #[.string a0] w fun e w' => e = .returned (.string r) ∧ Drawn0 w w' := by
 have H : (letterboxref15_name.l0 k a0 (a0.toList != ([] : List UInt8)) 0) = some r := h
 clear h
 have H' := Aside0.mk H
 clear H
 go_enter Tryd.func35, Tryd.ntmps35
 go_wp2
 go_loopg [3, 4] k (fun kq v3 v4 w' => ∃ (x3_1 : Bool) (x4_1 : Int), v3 = .bool x3_1 ∧ v4 = .int .i64 x4_1 ∧ Aside0 (letterboxref15_name.l0 kq a0 x3_1 x4_1 = some r) ∧ Aside0 (kq ≤ k) ∧ Drawn0 w w')
 case atStart => exact ⟨((a0.toList != ([] : List UInt8))), (0), (by first | rfl | (simp; done) | (simp [*]; done) | (cases h_ : ByteArray.toList a0 <;> simp [h_]; done)), (by first | rfl | (simp; done) | (simp [*]; done) | (cases h_ : ByteArray.toList a0 <;> simp [h_]; done)), H', ⟨Nat.le_refl _⟩, by repeat (first | exact Drawn0.refl _ | apply Drawn0.step)⟩
 case round =>
  clear H'
  obtain ⟨x3_1, x4_1, rfl, rfl, HA, HK1, ⟨m1, rfl⟩⟩ := hrel
  cases gk with
  | zero => exact absurd HA.out (by simp [letterboxref15_name.l0])
  | succ k1 =>
   have H := HA.out
   clear HA
   simp only [letterboxref15_name.l0] at H
   by_cases c2 : x4_1 < (a0.size : Int)
   ·rw [if_pos c2] at H
    have c2b0 : decide (x4_1 < (a0.size : Int)) = true := decide_eq_true c2
    clear c2
    by_cases c3 : 0 ≤ x4_1
    ·rw [if_pos c3] at H
     have c3b0 : decide (0 ≤ x4_1) = true := decide_eq_true c3
     clear c3
     replace H := Option.bind_eq_some_iff.mp H
     obtain ⟨t239, A50, H⟩ := H
     replace H : (if x3_1 = true then (letterboxref15_name.l0 k1 a0 t239 (wrap64 (x4_1 + 1))) else (letterboxref15_name.l0 k1 a0 false (wrap64 (x4_1 + 1)))) = some r := H
     have A5 := Aside0.mk A50
     clear A50
     by_cases c6 : x3_1 = true
     ·subst c6
      have H1 : (letterboxref15_name.l0 k1 a0 t239 (wrap64 (x4_1 + 1))) = some r := by rw [if_pos rfl] at H; exact H
      clear H
      have H := H1
      clear H1
      have H' := Aside0.mk H
      clear H
      have p4 : 0 ≤ (x4_1 : Int) := qd_
      have q4 : x4_1 < (a0.size : Int) := qd_
      have hx4 := bt_at a0 x4_1
      replace p4 := eq_true p4
      replace q4 := eq_true q4
      go_wp2_with (first | ((with_reducible refine gate_callee (f := 51) rfl ?_); refine goesL_ (some 17) rfl rfl Tryd.func51 (by kernel_rfl) rfl #[.int .u8 (bt a0 x4_1)] rfl qa_ ?_; (with_reducible refine (letterboxref01_Atom.calls k1 (bt a0 x4_1) t239 _ A5.out).mono ?_); rintro e w' ⟨rfl, ⟨nd, rfl⟩⟩; refine ⟨_, rfl, ?_⟩))
      go_roundg k1
      case measure => have := HK1.out; omega
      case rel => exact ⟨(t239), (wrap64 (x4_1 + 1)), qr_, qr_, H', ⟨by have := HK1.out; omega⟩, by repeat (first | exact Drawn0.refl _ | apply Drawn0.step)⟩
     ·replace c6 := Bool.eq_false_iff.mpr c6
      subst c6
      have H1 : (letterboxref15_name.l0 k1 a0 false (wrap64 (x4_1 + 1))) = some r := by rw [if_neg (show ¬ (false = true) by decide)] at H; exact H
      clear H
      have H := H1
      clear H1
      have H' := Aside0.mk H
      clear H
      have p4 : 0 ≤ (x4_1 : Int) := qd_
      have q4 : x4_1 < (a0.size : Int) := qd_
      have hx4 := bt_at a0 x4_1
      replace p4 := eq_true p4
      replace q4 := eq_true q4
      go_wp2_with (first | ((with_reducible refine gate_callee (f := 51) rfl ?_); refine goesL_ (some 17) rfl rfl Tryd.func51 (by kernel_rfl) rfl #[.int .u8 (bt a0 x4_1)] rfl qa_ ?_; (with_reducible refine (letterboxref01_Atom.calls k1 (bt a0 x4_1) t239 _ A5.out).mono ?_); rintro e w' ⟨rfl, ⟨nd, rfl⟩⟩; refine ⟨_, rfl, ?_⟩))
      go_roundg k1
      case measure => have := HK1.out; omega
      case rel => exact ⟨(false), (wrap64 (x4_1 + 1)), qr_, qr_, H', ⟨by have := HK1.out; omega⟩, by repeat (first | exact Drawn0.refl _ | apply Drawn0.step)⟩
    ·rw [if_neg c3] at H
     exact absurd H (by simp)
   ·rw [if_neg c2] at H
    have c2b0 : decide (x4_1 < (a0.size : Int)) = false := decide_eq_false c2
    clear c2
    by_cases c7 : x3_1 = true
    ·subst c7
     have H1 : (some a0) = some r := by rw [if_pos rfl] at H; exact H
     clear H
     have H := H1
     clear H1
     obtain rfl := Option.some.inj H
     go_wp2
     go_ret
     exact ⟨by first | rfl | (simp; done) | (simp [*]; done), by repeat (first | exact Drawn0.refl _ | apply Drawn0.step)⟩
    ·replace c7 := Bool.eq_false_iff.mpr c7
     subst c7
     have H1 : ((letterboxref07_Quoted.f k1 a0).bind fun t240 => (some t240)) = some r := by rw [if_neg (show ¬ (false = true) by decide)] at H; exact H
     clear H
     have H := H1
     clear H1
     replace H := Option.bind_eq_some_iff.mp H
     obtain ⟨t240, A80, H⟩ := H
     replace H : (some t240) = some r := H
     have A8 := Aside0.mk A80
     clear A80
     obtain rfl := Option.some.inj H
     go_wp2_with (first | ((with_reducible refine gate_callee (f := 45) rfl ?_); refine goesL_ (some 25) rfl rfl Tryd.func45 (by kernel_rfl) rfl #[.string a0] rfl qa_ ?_; (with_reducible refine (letterboxref07_Quoted.calls k1 a0 t240 _ A8.out).mono ?_); rintro e w' ⟨rfl, ⟨nd, rfl⟩⟩; refine ⟨_, rfl, ?_⟩))
     go_ret
     exact ⟨by first | rfl | (simp; done) | (simp [*]; done), by repeat (first | exact Drawn0.refl _ | apply Drawn0.step)⟩

end Go.Proofs.YtbjbagocnnffaaaDoor.P
