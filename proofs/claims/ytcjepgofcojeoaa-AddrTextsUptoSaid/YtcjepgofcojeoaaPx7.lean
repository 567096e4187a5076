-- Written by a program of this session (wip/tools/mk.sh) for this claim: it runs the kit's print with contracts of our own. Lean checks it.
import Derived.Test.YtcjepgofcojeoaaPx0
import Derived.Test.YtcjepgofcojeoaaZStr
import Derived.Test.YtcjepgofcojeoaaPx6
namespace Go.Proofs.Ytcjepgofcojeoaa.P
open Go.RowKit Go.Proofs.YtcjepgofcojeoaaW.PrintWords Go.Proofs.YtcjepgofcojeoaaW.PrintLast Go.Proofs.YtcjepgofcojeoaaW.PrintMore
attribute [-simp] Int.tmod_tmod_of_dvd
attribute [local go_sem] max2_int min2_int max_two min_two max_three min_three max_four min_four   -- for this text's walks alone
set_option linter.unusedVariables false
set_option linter.unusedSimpArgs false

/-! ### letterboxref10_Text: function 10 -/
mutual
def letterboxref10_Text.l0 : Nat → List (S33) → ByteArray → Int → Option (ByteArray)
  | 0, _, _, _ => none
  | k + 1, x0, x3, x4 => if x4 < (x0.length : Int) then (if x4 > 0 then (if 0 ≤ (wrap64 (x4 - 1)) then (if (wrap64 (x4 - 1)) < (x0.length : Int) then (if ((rd_T33 x0 (wrap64 (x4 - 1))).f0) = 1 then (letterboxref10_Text.j1 k x0 x3 x4 false) else (if 0 ≤ x4 then (letterboxref10_Text.j1 k x0 x3 x4 (((rd_T33 x0 x4).f0) != 2)) else (none))) else (none)) else (none)) else (letterboxref10_Text.j1 k x0 x3 x4 false)) else (some x3)
def letterboxref10_Text.j1 : Nat → List (S33) → ByteArray → Int → Bool → Option (ByteArray)
  | 0, _, _, _, _ => none
  | k + 1, x0, x3, x4, x29 => if x29 = true then (if x3.size + 2 ≤ 9223372036854775807 then (letterboxref10_Text.j2 k x0 (x3 ++ (⟨#[44, 32]⟩ : ByteArray)) x4) else (none)) else (letterboxref10_Text.j2 k x0 x3 x4)
def letterboxref10_Text.j2 : Nat → List (S33) → ByteArray → Int → Option (ByteArray)
  | 0, _, _, _ => none
  | k + 1, x0, x3, x4 => if 0 ≤ x4 then (if x4 < (x0.length : Int) then (if ((rd_T33 x0 x4).f0) = 0 then (if ((rd_T33 x0 x4).f1).toList = ([] : List UInt8) then ((letterboxref07_Quoted.f k ((rd_T33 x0 x4).f2)).bind fun t193 => (if 1 + t193.size ≤ 9223372036854775807 then (if x3.size + ((⟨#[60]⟩ : ByteArray) ++ t193).size ≤ 9223372036854775807 then (if ((rd_T33 x0 x4).f3).toList = ([] : List UInt8) then (if (x3 ++ ((⟨#[60]⟩ : ByteArray) ++ t193)).size + 1 ≤ 9223372036854775807 then (letterboxref10_Text.j3 k x0 ((x3 ++ ((⟨#[60]⟩ : ByteArray) ++ t193)) ++ (⟨#[62]⟩ : ByteArray)) x4) else (none)) else (if 1 + ((rd_T33 x0 x4).f3).size ≤ 9223372036854775807 then (if (x3 ++ ((⟨#[60]⟩ : ByteArray) ++ t193)).size + ((⟨#[64]⟩ : ByteArray) ++ ((rd_T33 x0 x4).f3)).size ≤ 9223372036854775807 then (if ((x3 ++ ((⟨#[60]⟩ : ByteArray) ++ t193)) ++ ((⟨#[64]⟩ : ByteArray) ++ ((rd_T33 x0 x4).f3))).size + 1 ≤ 9223372036854775807 then (letterboxref10_Text.j3 k x0 (((x3 ++ ((⟨#[60]⟩ : ByteArray) ++ t193)) ++ ((⟨#[64]⟩ : ByteArray) ++ ((rd_T33 x0 x4).f3))) ++ (⟨#[62]⟩ : ByteArray)) x4) else (none)) else (none)) else (none))) else (none)) else (none))) else ((letterboxref07_Quoted.f k ((rd_T33 x0 x4).f1)).bind fun t197 => (if t197.size + 1 ≤ 9223372036854775807 then (if x3.size + (t197 ++ (⟨#[32]⟩ : ByteArray)).size ≤ 9223372036854775807 then ((letterboxref07_Quoted.f k ((rd_T33 x0 x4).f2)).bind fun t199 => (if 1 + t199.size ≤ 9223372036854775807 then (if (x3 ++ (t197 ++ (⟨#[32]⟩ : ByteArray))).size + ((⟨#[60]⟩ : ByteArray) ++ t199).size ≤ 9223372036854775807 then (if ((rd_T33 x0 x4).f3).toList = ([] : List UInt8) then (if ((x3 ++ (t197 ++ (⟨#[32]⟩ : ByteArray))) ++ ((⟨#[60]⟩ : ByteArray) ++ t199)).size + 1 ≤ 9223372036854775807 then (letterboxref10_Text.j3 k x0 (((x3 ++ (t197 ++ (⟨#[32]⟩ : ByteArray))) ++ ((⟨#[60]⟩ : ByteArray) ++ t199)) ++ (⟨#[62]⟩ : ByteArray)) x4) else (none)) else (if 1 + ((rd_T33 x0 x4).f3).size ≤ 9223372036854775807 then (if ((x3 ++ (t197 ++ (⟨#[32]⟩ : ByteArray))) ++ ((⟨#[60]⟩ : ByteArray) ++ t199)).size + ((⟨#[64]⟩ : ByteArray) ++ ((rd_T33 x0 x4).f3)).size ≤ 9223372036854775807 then (if (((x3 ++ (t197 ++ (⟨#[32]⟩ : ByteArray))) ++ ((⟨#[60]⟩ : ByteArray) ++ t199)) ++ ((⟨#[64]⟩ : ByteArray) ++ ((rd_T33 x0 x4).f3))).size + 1 ≤ 9223372036854775807 then (letterboxref10_Text.j3 k x0 ((((x3 ++ (t197 ++ (⟨#[32]⟩ : ByteArray))) ++ ((⟨#[60]⟩ : ByteArray) ++ t199)) ++ ((⟨#[64]⟩ : ByteArray) ++ ((rd_T33 x0 x4).f3))) ++ (⟨#[62]⟩ : ByteArray)) x4) else (none)) else (none)) else (none))) else (none)) else (none))) else (none)) else (none)))) else (letterboxref10_Text.j3 k x0 x3 x4)) else (none)) else (none)
def letterboxref10_Text.j3 : Nat → List (S33) → ByteArray → Int → Option (ByteArray)
  | 0, _, _, _ => none
  | k + 1, x0, x3, x4 => if 0 ≤ x4 then (if x4 < (x0.length : Int) then (if ((rd_T33 x0 x4).f0) = 1 then ((letterboxref07_Quoted.f k ((rd_T33 x0 x4).f1)).bind fun t204 => (if t204.size + 1 ≤ 9223372036854775807 then (if x3.size + (t204 ++ (⟨#[58]⟩ : ByteArray)).size ≤ 9223372036854775807 then (if ((rd_T33 x0 x4).f0) = 2 then (if (x3 ++ (t204 ++ (⟨#[58]⟩ : ByteArray))).size + 1 ≤ 9223372036854775807 then (letterboxref10_Text.l0 k x0 ((x3 ++ (t204 ++ (⟨#[58]⟩ : ByteArray))) ++ (⟨#[59]⟩ : ByteArray)) (wrap64 (x4 + 1))) else (none)) else (letterboxref10_Text.l0 k x0 (x3 ++ (t204 ++ (⟨#[58]⟩ : ByteArray))) (wrap64 (x4 + 1)))) else (none)) else (none))) else (if ((rd_T33 x0 x4).f0) = 2 then (if x3.size + 1 ≤ 9223372036854775807 then (letterboxref10_Text.l0 k x0 (x3 ++ (⟨#[59]⟩ : ByteArray)) (wrap64 (x4 + 1))) else (none)) else (letterboxref10_Text.l0 k x0 x3 (wrap64 (x4 + 1))))) else (none)) else (none)
end
def letterboxref10_Text.f (k : Nat) (l0 : List (S33)) : Option (ByteArray) := letterboxref10_Text.l0 k l0 (⟨#[]⟩ : ByteArray) 0
theorem letterboxref10_Text.mono_l : ∀ k, (∀ y0 y1 y2, LeO (letterboxref10_Text.l0 k y0 y1 y2) (letterboxref10_Text.l0 (k + 1) y0 y1 y2)) ∧ (∀ y0 y1 y2 y3, LeO (letterboxref10_Text.j1 k y0 y1 y2 y3) (letterboxref10_Text.j1 (k + 1) y0 y1 y2 y3)) ∧ (∀ y0 y1 y2, LeO (letterboxref10_Text.j2 k y0 y1 y2) (letterboxref10_Text.j2 (k + 1) y0 y1 y2)) ∧ (∀ y0 y1 y2, LeO (letterboxref10_Text.j3 k y0 y1 y2) (letterboxref10_Text.j3 (k + 1) y0 y1 y2))
  | 0 => ⟨fun _ _ _ r h => by simp [letterboxref10_Text.l0] at h, fun _ _ _ _ r h => by simp [letterboxref10_Text.j1] at h, fun _ _ _ r h => by simp [letterboxref10_Text.j2] at h, fun _ _ _ r h => by simp [letterboxref10_Text.j3] at h⟩
  | k + 1 => by
    obtain ⟨ih0, ih1, ih2, ih3⟩ := letterboxref10_Text.mono_l k
    refine ⟨?_, ?_, ?_, ?_⟩
    · intro y0 y1 y2
      unfold letterboxref10_Text.l0
      repeat' first
      | (with_reducible exact ih0 _ _ _)
      | (with_reducible exact ih1 _ _ _ _)
      | (with_reducible exact ih2 _ _ _)
      | (with_reducible exact ih3 _ _ _)
      | (with_reducible exact letterboxref07_Quoted.mono _ _)
      | (with_reducible exact LeO.refl _)
      | (with_reducible exact LeO.none _)
      | (with_reducible refine LeO.ite ?_ ?_)
      | (with_reducible refine LeO.bind ?_ (fun _ => ?_))
      | exact ih0 _ _ _
      | exact ih1 _ _ _ _
      | exact ih2 _ _ _
      | exact ih3 _ _ _
      | exact letterboxref07_Quoted.mono _ _
      | exact LeO.none _
      | refine LeO.ite ?_ ?_
      | refine LeO.bind ?_ (fun _ => ?_)
    · intro y0 y1 y2 y3
      unfold letterboxref10_Text.j1
      repeat' first
      | (with_reducible exact ih0 _ _ _)
      | (with_reducible exact ih1 _ _ _ _)
      | (with_reducible exact ih2 _ _ _)
      | (with_reducible exact ih3 _ _ _)
      | (with_reducible exact letterboxref07_Quoted.mono _ _)
      | (with_reducible exact LeO.refl _)
      | (with_reducible exact LeO.none _)
      | (with_reducible refine LeO.ite ?_ ?_)
      | (with_reducible refine LeO.bind ?_ (fun _ => ?_))
      | exact ih0 _ _ _
      | exact ih1 _ _ _ _
      | exact ih2 _ _ _
      | exact ih3 _ _ _
      | exact letterboxref07_Quoted.mono _ _
      | exact LeO.none _
      | refine LeO.ite ?_ ?_
      | refine LeO.bind ?_ (fun _ => ?_)
    · intro y0 y1 y2
      unfold letterboxref10_Text.j2
      repeat' first
      | (with_reducible exact ih0 _ _ _)
      | (with_reducible exact ih1 _ _ _ _)
      | (with_reducible exact ih2 _ _ _)
      | (with_reducible exact ih3 _ _ _)
      | (with_reducible exact letterboxref07_Quoted.mono _ _)
      | (with_reducible exact LeO.refl _)
      | (with_reducible exact LeO.none _)
      | (with_reducible refine LeO.ite ?_ ?_)
      | (with_reducible refine LeO.bind ?_ (fun _ => ?_))
      | exact ih0 _ _ _
      | exact ih1 _ _ _ _
      | exact ih2 _ _ _
      | exact ih3 _ _ _
      | exact letterboxref07_Quoted.mono _ _
      | exact LeO.none _
      | refine LeO.ite ?_ ?_
      | refine LeO.bind ?_ (fun _ => ?_)
    · intro y0 y1 y2
      unfold letterboxref10_Text.j3
      repeat' first
      | (with_reducible exact ih0 _ _ _)
      | (with_reducible exact ih1 _ _ _ _)
      | (with_reducible exact ih2 _ _ _)
      | (with_reducible exact ih3 _ _ _)
      | (with_reducible exact letterboxref07_Quoted.mono _ _)
      | (with_reducible exact LeO.refl _)
      | (with_reducible exact LeO.none _)
      | (with_reducible refine LeO.ite ?_ ?_)
      | (with_reducible refine LeO.bind ?_ (fun _ => ?_))
      | exact ih0 _ _ _
      | exact ih1 _ _ _ _
      | exact ih2 _ _ _
      | exact ih3 _ _ _
      | exact letterboxref07_Quoted.mono _ _
      | exact LeO.none _
      | refine LeO.ite ?_ ?_
      | refine LeO.bind ?_ (fun _ => ?_)
theorem letterboxref10_Text.mono : ∀ a0 k, LeO (letterboxref10_Text.f k a0) (letterboxref10_Text.f (k + 1) a0) := by
  intro a0 k
  obtain ⟨ih0, ih1, ih2, ih3⟩ := letterboxref10_Text.mono_l k
  unfold letterboxref10_Text.f
  repeat' first
      | (with_reducible exact ih0 _ _ _)
      | (with_reducible exact ih1 _ _ _ _)
      | (with_reducible exact ih2 _ _ _)
      | (with_reducible exact ih3 _ _ _)
      | (with_reducible exact letterboxref07_Quoted.mono _ _)
      | (with_reducible exact LeO.refl _)
      | (with_reducible exact LeO.none _)
      | (with_reducible refine LeO.ite ?_ ?_)
      | (with_reducible refine LeO.bind ?_ (fun _ => ?_))
      | exact ih0 _ _ _
      | exact ih1 _ _ _ _
      | exact ih2 _ _ _
      | exact ih3 _ _ _
      | exact letterboxref07_Quoted.mono _ _
      | exact LeO.none _
      | refine LeO.ite ?_ ?_
      | refine LeO.bind ?_ (fun _ => ?_)
set_option maxHeartbeats 8000000 in
set_option maxRecDepth 100000 in
theorem letterboxref10_Text.calls (k : Nat) (A0 : Option Addr) (c0 : Nat) (l0 : List (S33)) (r : ByteArray) (w : World) (hr0 : Kd.C k33 w A0 l0.length l0) (hc0 : l0.length ≤ c0) (h : letterboxref10_Text.f k l0 = some r) :
    Calls Try.prog 10 #[.slice A0 l0.length c0] w fun e w' => e = .returned (.string r) ∧ Drawn0 w w' := by
  have HR0 := Aside0.mk hr0
  have HC0 := Aside0.mk hc0
  clear hr0 hc0
  have H : (letterboxref10_Text.l0 k l0 (⟨#[]⟩ : ByteArray) 0) = some r := h
  clear h
  have H' := Aside0.mk H
  clear H
  go_enter Try.func10, Try.ntmps10
  go_wp2
  go_loopg [3, 4] k (fun kq v3 v4 w' => ∃ (x3_1 : ByteArray) (x4_1 : Int), v3 = .string x3_1 ∧ v4 = .int .i64 x4_1 ∧ Aside0 (letterboxref10_Text.l0 kq l0 x3_1 x4_1 = some r) ∧ Aside0 (kq ≤ k) ∧ Drawn0 w w')
  case atStart => exact ⟨((⟨#[]⟩ : ByteArray)), (0), (by first | rfl | (simp; done) | (simp [*]; done)), (by first | rfl | (simp; done) | (simp [*]; done)), H', ⟨Nat.le_refl _⟩, by repeat (first | exact Drawn0.refl _ | apply Drawn0.step)⟩
  case round =>
    clear H'
    try clear c1
    obtain ⟨x3_1, x4_1, rfl, rfl, HA, HK1, ⟨m1, rfl⟩⟩ := hrel
    cases gk with
    | zero => exact absurd HA.out (by simp [letterboxref10_Text.l0])
    | succ k1 =>
      have H := HA.out
      clear HA
      simp only [letterboxref10_Text.l0] at H
      by_cases c2 : x4_1 < (l0.length : Int)
      · rw [if_pos c2] at H
        have c2b0 : decide (x4_1 < (l0.length : Int)) = true := decide_eq_true c2
        clear c2
        have HC3 := Aside0.mk H
        clear H
        go_upto_region 5 with (fail)
        go_cut [29] (fun v29 wc => ∃ (kq : Nat) (x29_2 : Bool), v29 = .bool x29_2 ∧ Aside0 (letterboxref10_Text.j1 kq l0 x3_1 x4_1 x29_2 = some r) ∧ Aside0 (kq ≤ k1) ∧ Drawn0 w wc)
        case first =>
          have H := HC3.out
          clear HC3
          by_cases c4 : x4_1 > 0
          · rw [if_pos c4] at H
            have c4b0 : decide (0 < x4_1) = true := decide_eq_true c4
            clear c4
            (first | rw [c4b0] | (simp only [i64_w, i32_w]; rw [c4b0]) | skip)
            obtain ⟨ji5, hji5⟩ : ∃ j_ : Int, (wrap64 (x4_1 - 1)) = j_ := ⟨_, rfl⟩
            replace H : (if 0 ≤ (ji5) then (if (ji5) < (l0.length : Int) then (if ((rd_T33 l0 (ji5)).f0) = 1 then (letterboxref10_Text.j1 k1 l0 x3_1 x4_1 false) else (if 0 ≤ x4_1 then (letterboxref10_Text.j1 k1 l0 x3_1 x4_1 (((rd_T33 l0 x4_1).f0) != 2)) else (none))) else (none)) else (none)) = some r := by first | (rw [hji5] at H; exact H) | (simp only [hji5] at H ⊢; exact H)
            have hji5w : (IntKind.i64.wrap (x4_1 - 1)) = ji5 := (i64_w _).trans hji5
            by_cases c6 : 0 ≤ (ji5)
            · rw [if_pos c6] at H
              have c6b0 : decide (0 ≤ (ji5)) = true := decide_eq_true c6
              clear c6
              by_cases c7 : (ji5) < (l0.length : Int)
              · rw [if_pos c7] at H
                have c7b0 : decide ((ji5) < (l0.length : Int)) = true := decide_eq_true c7
                clear c7
                by_cases c8 : ((rd_T33 l0 (ji5)).f0) = 1
                · rw [if_pos c8] at H
                  have c8b0 : (((rd_T33 l0 (ji5)).f0) == 1) = true := beq_iff_eq.mpr c8
                  have c8b1 : (((rd_T33 l0 (ji5)).f0) != 1) = false := bne_eq_false_iff_eq.mpr c8
                  clear c8
                  have H' := Aside0.mk H
                  clear H
                  have p188 : 0 ≤ ((ji5) : Int) := of_decide_eq_true (by first | (with_reducible assumption) | assumption)
                  have q188 : (ji5) < (l0.length : Int) := of_decide_eq_true (by first | (with_reducible assumption) | assumption)
                  obtain ⟨ad188, e188, hx188_0, hx188_1, hx188_2, hx188_3⟩ := at_T33 HR0.out (ji5) p188 q188
                  cases e188
                  replace p188 := eq_true p188
                  replace q188 := eq_true q188
                  go_wp2
                  go_meet
                  case rel => exact ⟨_, (false), (by first | rfl | (simp; done) | (simp [*]; done)), (by first | exact H' | (rw [hji5]; exact H')), ⟨by have := HK1.out; first | omega | exact Nat.le_refl _⟩, by repeat (first | exact Drawn0.refl _ | apply Drawn0.step)⟩
                · rw [if_neg c8] at H
                  have c8b0 : (((rd_T33 l0 (ji5)).f0) == 1) = false := beq_eq_false_iff_ne.mpr c8
                  have c8b1 : (((rd_T33 l0 (ji5)).f0) != 1) = true := bne_iff_ne.mpr c8
                  by_cases c9 : 0 ≤ x4_1
                  · rw [if_pos c9] at H
                    have c9b0 : decide (0 ≤ x4_1) = true := decide_eq_true c9
                    clear c9
                    have H' := Aside0.mk H
                    clear H
                    have p188 : 0 ≤ ((ji5) : Int) := of_decide_eq_true (by first | (with_reducible assumption) | assumption)
                    have q188 : (ji5) < (l0.length : Int) := of_decide_eq_true (by first | (with_reducible assumption) | assumption)
                    obtain ⟨ad188, e188, hx188_0, hx188_1, hx188_2, hx188_3⟩ := at_T33 HR0.out (ji5) p188 q188
                    cases e188
                    replace p188 := eq_true p188
                    replace q188 := eq_true q188
                    have p189 : 0 ≤ (x4_1 : Int) := of_decide_eq_true (by first | (with_reducible assumption) | assumption)
                    have q189 : x4_1 < (l0.length : Int) := of_decide_eq_true (by first | (with_reducible assumption) | assumption)
                    obtain ⟨ad189, e189, hx189_0, hx189_1, hx189_2, hx189_3⟩ := at_T33 HR0.out x4_1 p189 q189
                    obtain rfl : ad188 = ad189 := (by injection e189)
                    replace p189 := eq_true p189
                    replace q189 := eq_true q189
                    go_wp2
                    go_meet
                    case rel => exact ⟨_, ((((rd_T33 l0 x4_1).f0) != 2)), (by first | rfl | (simp; done) | (simp [*]; done)), (by first | exact H' | (rw [hji5]; exact H')), ⟨by have := HK1.out; first | omega | exact Nat.le_refl _⟩, by repeat (first | exact Drawn0.refl _ | apply Drawn0.step)⟩
                  · rw [if_neg c9] at H
                    exact absurd H (by simp)
              · rw [if_neg c7] at H
                exact absurd H (by simp)
            · rw [if_neg c6] at H
              exact absurd H (by simp)
          · rw [if_neg c4] at H
            have c4b0 : decide (0 < x4_1) = false := decide_eq_false c4
            clear c4
            (first | rw [c4b0] | (simp only [i64_w, i32_w]; rw [c4b0]) | skip)
            have H' := Aside0.mk H
            clear H
            go_wp2
            go_meet
            case rel => exact ⟨_, (false), (by first | rfl | (simp; done) | (simp [*]; done)), (by first | exact H' | (rw [hji5]; exact H')), ⟨by have := HK1.out; first | omega | exact Nat.le_refl _⟩, by repeat (first | exact Drawn0.refl _ | apply Drawn0.step)⟩
        case rest =>
          clear HC3
          try clear c1
          try clear p1
          try clear q1
          try clear hx1
          try clear c2
          try clear c2b0
          try clear p2
          try clear c4
          try clear c4b0
          try clear c6
          try clear c6b0
          try clear p6
          try clear c7
          try clear c7b0
          try clear c8
          try clear c8b0
          try clear c8b1
          try clear c9
          try clear c9b0
          try clear hx188_0
          try clear hx188_1
          try clear hx188_2
          try clear hx188_3
          try clear hx189_0
          try clear hx189_1
          try clear hx189_2
          try clear hx189_3
          try clear p188
          try clear p189
          try clear q188
          try clear q189
          obtain ⟨kq, x29_2, rfl, HA, HJ2, ⟨mc2, rfl⟩⟩ := hcut
          cases kq with
          | zero => exact absurd HA.out (by simp [letterboxref10_Text.j1])
          | succ kj2 =>
            have H := HA.out
            clear HA
            simp only [letterboxref10_Text.j1] at H
            have HC10 := Aside0.mk H
            clear H
            go_upto_if 29 with (fail)
            go_cut [3] (fun v3 wc => ∃ (kq : Nat) (x3_9 : ByteArray), v3 = .string x3_9 ∧ Aside0 (letterboxref10_Text.j2 kq l0 x3_9 x4_1 = some r) ∧ Aside0 (kq ≤ kj2) ∧ Drawn0 w wc)
            case first =>
              have H := HC10.out
              clear HC10
              by_cases c11 : x29_2 = true
              · subst c11
                have H1 : (if x3_1.size + 2 ≤ 9223372036854775807 then (letterboxref10_Text.j2 kj2 l0 (x3_1 ++ (⟨#[44, 32]⟩ : ByteArray)) x4_1) else (none)) = some r := by rw [if_pos rfl] at H; exact H
                clear H
                have H := H1
                clear H1
                by_cases c12 : x3_1.size + 2 ≤ 9223372036854775807
                · rw [if_pos c12] at H
                  have c12b0 := eq_true c12
                  have c12b1 : decide (x3_1.size + 2 ≤ 9223372036854775807) = true := decide_eq_true c12
                  try have c12b2 : (9223372036854775807 < x3_1.size + 2) = False := eq_false (Nat.not_lt.2 c12)
                  have H' := Aside0.mk H
                  clear H
                  go_wp2
                  go_meet
                  case rel => exact ⟨_, (x3_1 ++ (⟨#[44, 32]⟩ : ByteArray)), (by first | rfl | (simp; done) | (simp [*]; done)), (by first | exact H' | (rw [hji5]; exact H')), ⟨by have := HK1.out; have := HJ2.out; first | omega | exact Nat.le_refl _⟩, by repeat (first | exact Drawn0.refl _ | apply Drawn0.step)⟩
                · rw [if_neg c12] at H
                  exact absurd H (by simp)
              · replace c11 := Bool.eq_false_iff.mpr c11
                subst c11
                have H1 : (letterboxref10_Text.j2 kj2 l0 x3_1 x4_1) = some r := by rw [if_neg (show ¬ (false = true) by decide)] at H; exact H
                clear H
                have H := H1
                clear H1
                have H' := Aside0.mk H
                clear H
                go_wp2
                go_meet
                case rel => exact ⟨_, (x3_1), (by first | rfl | (simp; done) | (simp [*]; done)), (by first | exact H' | (rw [hji5]; exact H')), ⟨by have := HK1.out; have := HJ2.out; first | omega | exact Nat.le_refl _⟩, by repeat (first | exact Drawn0.refl _ | apply Drawn0.step)⟩
            case rest =>
              clear HC10
              try clear c1
              try clear p1
              try clear q1
              try clear hx1
              try clear c2
              try clear c2b0
              try clear p2
              try clear c4
              try clear c4b0
              try clear c6
              try clear c6b0
              try clear p6
              try clear c7
              try clear c7b0
              try clear c8
              try clear c8b0
              try clear c8b1
              try clear c9
              try clear c9b0
              try clear c10
              try clear c11
              try clear c12
              try clear c12b0
              try clear c12b1
              try clear c12b2
              try clear hx188_0
              try clear hx188_1
              try clear hx188_2
              try clear hx188_3
              try clear hx189_0
              try clear hx189_1
              try clear hx189_2
              try clear hx189_3
              try clear p1
              try clear p188
              try clear p189
              try clear p2
              try clear p6
              try clear q1
              try clear q188
              try clear q189
              obtain ⟨kq, x3_9, rfl, HA, HJ9, ⟨mc9, rfl⟩⟩ := hcut
              cases kq with
              | zero => exact absurd HA.out (by simp [letterboxref10_Text.j2])
              | succ kj9 =>
                have H := HA.out
                clear HA
                simp only [letterboxref10_Text.j2] at H
                by_cases c13 : 0 ≤ x4_1
                · rw [if_pos c13] at H
                  have c13b0 : decide (0 ≤ x4_1) = true := decide_eq_true c13
                  clear c13
                  by_cases c14 : x4_1 < (l0.length : Int)
                  · rw [if_pos c14] at H
                    have c14b0 : decide (x4_1 < (l0.length : Int)) = true := decide_eq_true c14
                    clear c14
                    have HC15 := Aside0.mk H
                    clear H
                    have p190 : 0 ≤ (x4_1 : Int) := of_decide_eq_true (by first | (with_reducible assumption) | assumption)
                    have q190 : x4_1 < (l0.length : Int) := of_decide_eq_true (by first | (with_reducible assumption) | assumption)
                    obtain ⟨ad190, e190, hx190_0, hx190_1, hx190_2, hx190_3⟩ := at_T33 HR0.out x4_1 p190 q190
                    cases e190
                    replace p190 := eq_true p190
                    replace q190 := eq_true q190
                    go_upto_if 37 with (fail)
                    go_cut [3] (fun v3 wc => ∃ (kq : Nat) (x3_14 : ByteArray), v3 = .string x3_14 ∧ Aside0 (letterboxref10_Text.j3 kq l0 x3_14 x4_1 = some r) ∧ Aside0 (kq ≤ kj9) ∧ Drawn0 w wc)
                    case first =>
                      have H := HC15.out
                      clear HC15
                      by_cases c16 : ((rd_T33 l0 x4_1).f0) = 0
                      · rw [if_pos c16] at H
                        have c16b0 : (((rd_T33 l0 x4_1).f0) == 0) = true := beq_iff_eq.mpr c16
                        have c16b1 : (((rd_T33 l0 x4_1).f0) != 0) = false := bne_eq_false_iff_eq.mpr c16
                        clear c16
                        (first | rw [c16b0] | (simp only [i64_w, i32_w]; rw [c16b0]) | skip)
                        by_cases c17 : ((rd_T33 l0 x4_1).f1).toList = ([] : List UInt8)
                        · rw [if_pos c17] at H
                          have c17b0 : (((rd_T33 l0 x4_1).f1).toList == ([] : List UInt8)) = true := beq_iff_eq.mpr c17
                          have c17b1 : (((rd_T33 l0 x4_1).f1).toList != ([] : List UInt8)) = false := bne_eq_false_iff_eq.mpr c17
                          clear c17
                          replace H := Option.bind_eq_some_iff.mp H
                          obtain ⟨t193, A180, H⟩ := H
                          replace H : (if 1 + t193.size ≤ 9223372036854775807 then (if x3_9.size + ((⟨#[60]⟩ : ByteArray) ++ t193).size ≤ 9223372036854775807 then (if ((rd_T33 l0 x4_1).f3).toList = ([] : List UInt8) then (if (x3_9 ++ ((⟨#[60]⟩ : ByteArray) ++ t193)).size + 1 ≤ 9223372036854775807 then (letterboxref10_Text.j3 kj9 l0 ((x3_9 ++ ((⟨#[60]⟩ : ByteArray) ++ t193)) ++ (⟨#[62]⟩ : ByteArray)) x4_1) else (none)) else (if 1 + ((rd_T33 l0 x4_1).f3).size ≤ 9223372036854775807 then (if (x3_9 ++ ((⟨#[60]⟩ : ByteArray) ++ t193)).size + ((⟨#[64]⟩ : ByteArray) ++ ((rd_T33 l0 x4_1).f3)).size ≤ 9223372036854775807 then (if ((x3_9 ++ ((⟨#[60]⟩ : ByteArray) ++ t193)) ++ ((⟨#[64]⟩ : ByteArray) ++ ((rd_T33 l0 x4_1).f3))).size + 1 ≤ 9223372036854775807 then (letterboxref10_Text.j3 kj9 l0 (((x3_9 ++ ((⟨#[60]⟩ : ByteArray) ++ t193)) ++ ((⟨#[64]⟩ : ByteArray) ++ ((rd_T33 l0 x4_1).f3))) ++ (⟨#[62]⟩ : ByteArray)) x4_1) else (none)) else (none)) else (none))) else (none)) else (none)) = some r := H
                          have A18 := Aside0.mk A180
                          clear A180
                          by_cases c19 : 1 + t193.size ≤ 9223372036854775807
                          · rw [if_pos c19] at H
                            have c19b0 := eq_true c19
                            have c19b1 : decide (1 + t193.size ≤ 9223372036854775807) = true := decide_eq_true c19
                            try have c19b2 : (9223372036854775807 < 1 + t193.size) = False := eq_false (Nat.not_lt.2 c19)
                            by_cases c20 : x3_9.size + ((⟨#[60]⟩ : ByteArray) ++ t193).size ≤ 9223372036854775807
                            · rw [if_pos c20] at H
                              have c20b0 := eq_true c20
                              have c20b1 : decide (x3_9.size + ((⟨#[60]⟩ : ByteArray) ++ t193).size ≤ 9223372036854775807) = true := decide_eq_true c20
                              try have c20b2 : (9223372036854775807 < x3_9.size + ((⟨#[60]⟩ : ByteArray) ++ t193).size) = False := eq_false (Nat.not_lt.2 c20)
                              try have c20b4 : (9223372036854775807 < x3_9.size + (1 + t193.size)) = False := eq_false (Nat.not_lt.2 (by have h_ := c20; simp only [ByteArray.size_append] at h_; exact h_))
                              by_cases c21 : ((rd_T33 l0 x4_1).f3).toList = ([] : List UInt8)
                              · rw [if_pos c21] at H
                                have c21b0 : (((rd_T33 l0 x4_1).f3).toList == ([] : List UInt8)) = true := beq_iff_eq.mpr c21
                                have c21b1 : (((rd_T33 l0 x4_1).f3).toList != ([] : List UInt8)) = false := bne_eq_false_iff_eq.mpr c21
                                clear c21
                                by_cases c22 : (x3_9 ++ ((⟨#[60]⟩ : ByteArray) ++ t193)).size + 1 ≤ 9223372036854775807
                                · rw [if_pos c22] at H
                                  have c22b0 := eq_true c22
                                  have c22b1 : decide ((x3_9 ++ ((⟨#[60]⟩ : ByteArray) ++ t193)).size + 1 ≤ 9223372036854775807) = true := decide_eq_true c22
                                  try have c22b2 : (9223372036854775807 < (x3_9 ++ ((⟨#[60]⟩ : ByteArray) ++ t193)).size + 1) = False := eq_false (Nat.not_lt.2 c22)
                                  try have c22b4 : (9223372036854775807 < x3_9.size + (1 + t193.size) + 1) = False := eq_false (Nat.not_lt.2 (by have h_ := c22; simp only [ByteArray.size_append] at h_; exact h_))
                                  have H' := Aside0.mk H
                                  clear H
                                  have p191 : 0 ≤ (x4_1 : Int) := of_decide_eq_true (by first | (with_reducible assumption) | assumption)
                                  have q191 : x4_1 < (l0.length : Int) := of_decide_eq_true (by first | (with_reducible assumption) | assumption)
                                  obtain ⟨ad191, e191, hx191_0, hx191_1, hx191_2, hx191_3⟩ := at_T33 HR0.out x4_1 p191 q191
                                  obtain rfl : ad190 = ad191 := (by injection e191)
                                  replace p191 := eq_true p191
                                  replace q191 := eq_true q191
                                  have p192 : 0 ≤ (x4_1 : Int) := of_decide_eq_true (by first | (with_reducible assumption) | assumption)
                                  have q192 : x4_1 < (l0.length : Int) := of_decide_eq_true (by first | (with_reducible assumption) | assumption)
                                  obtain ⟨ad192, e192, hx192_0, hx192_1, hx192_2, hx192_3⟩ := at_T33 HR0.out x4_1 p192 q192
                                  obtain rfl : ad190 = ad192 := (by injection e192)
                                  replace p192 := eq_true p192
                                  replace q192 := eq_true q192
                                  go_wp2_with (first | ((with_reducible refine gate_callee (f := 16) rfl ?_); refine goesL_ (some 59) rfl rfl Try.func16 (by kernel_rfl) rfl #[.string ((rd_T33 l0 x4_1).f2)] rfl (by (try simp only [List.map_toArray, List.map_cons, List.map_nil]); first | done | rfl | (simp only [List.length_drop, List.length_take]; rfl)) ?_; (with_reducible refine (letterboxref07_Quoted.calls kj9 ((rd_T33 l0 x4_1).f2) t193 _ A18.out).mono ?_); rintro e w' ⟨rfl, ⟨nd, rfl⟩⟩; refine ⟨_, rfl, ?_⟩; have p194 : 0 ≤ (x4_1 : Int) := of_decide_eq_true (by first | (with_reducible assumption) | assumption); have q194 : x4_1 < (l0.length : Int) := of_decide_eq_true (by first | (with_reducible assumption) | assumption); obtain ⟨ad194, e194, hx194_0, hx194_1, hx194_2, hx194_3⟩ := at_T33 HR0.out x4_1 p194 q194; obtain rfl : ad190 = ad194 := (by injection e194); replace p194 := eq_true p194; replace q194 := eq_true q194))
                                  go_meet
                                  case rel => exact ⟨_, ((x3_9 ++ ((⟨#[60]⟩ : ByteArray) ++ t193)) ++ (⟨#[62]⟩ : ByteArray)), (by first | rfl | (simp; done) | (simp [*]; done)), (by first | exact H' | (rw [hji5]; exact H')), ⟨by have := HK1.out; have := HJ2.out; have := HJ9.out; first | omega | exact Nat.le_refl _⟩, by repeat (first | exact Drawn0.refl _ | apply Drawn0.step)⟩
                                · rw [if_neg c22] at H
                                  exact absurd H (by simp)
                              · rw [if_neg c21] at H
                                have c21b0 : (((rd_T33 l0 x4_1).f3).toList == ([] : List UInt8)) = false := beq_eq_false_iff_ne.mpr c21
                                have c21b1 : (((rd_T33 l0 x4_1).f3).toList != ([] : List UInt8)) = true := bne_iff_ne.mpr c21
                                by_cases c23 : 1 + ((rd_T33 l0 x4_1).f3).size ≤ 9223372036854775807
                                · rw [if_pos c23] at H
                                  have c23b0 := eq_true c23
                                  have c23b1 : decide (1 + ((rd_T33 l0 x4_1).f3).size ≤ 9223372036854775807) = true := decide_eq_true c23
                                  try have c23b2 : (9223372036854775807 < 1 + ((rd_T33 l0 x4_1).f3).size) = False := eq_false (Nat.not_lt.2 c23)
                                  by_cases c24 : (x3_9 ++ ((⟨#[60]⟩ : ByteArray) ++ t193)).size + ((⟨#[64]⟩ : ByteArray) ++ ((rd_T33 l0 x4_1).f3)).size ≤ 9223372036854775807
                                  · rw [if_pos c24] at H
                                    have c24b0 := eq_true c24
                                    have c24b1 : decide ((x3_9 ++ ((⟨#[60]⟩ : ByteArray) ++ t193)).size + ((⟨#[64]⟩ : ByteArray) ++ ((rd_T33 l0 x4_1).f3)).size ≤ 9223372036854775807) = true := decide_eq_true c24
                                    try have c24b2 : (9223372036854775807 < (x3_9 ++ ((⟨#[60]⟩ : ByteArray) ++ t193)).size + ((⟨#[64]⟩ : ByteArray) ++ ((rd_T33 l0 x4_1).f3)).size) = False := eq_false (Nat.not_lt.2 c24)
                                    try have c24b4 : (9223372036854775807 < x3_9.size + (1 + t193.size) + (1 + (rd_T33 l0 x4_1).f3.size)) = False := eq_false (Nat.not_lt.2 (by have h_ := c24; simp only [ByteArray.size_append] at h_; exact h_))
                                    by_cases c25 : ((x3_9 ++ ((⟨#[60]⟩ : ByteArray) ++ t193)) ++ ((⟨#[64]⟩ : ByteArray) ++ ((rd_T33 l0 x4_1).f3))).size + 1 ≤ 9223372036854775807
                                    · rw [if_pos c25] at H
                                      have c25b0 := eq_true c25
                                      have c25b1 : decide (((x3_9 ++ ((⟨#[60]⟩ : ByteArray) ++ t193)) ++ ((⟨#[64]⟩ : ByteArray) ++ ((rd_T33 l0 x4_1).f3))).size + 1 ≤ 9223372036854775807) = true := decide_eq_true c25
                                      try have c25b2 : (9223372036854775807 < ((x3_9 ++ ((⟨#[60]⟩ : ByteArray) ++ t193)) ++ ((⟨#[64]⟩ : ByteArray) ++ ((rd_T33 l0 x4_1).f3))).size + 1) = False := eq_false (Nat.not_lt.2 c25)
                                      try have c25b4 : (9223372036854775807 < x3_9.size + (1 + t193.size) + (1 + (rd_T33 l0 x4_1).f3.size) + 1) = False := eq_false (Nat.not_lt.2 (by have h_ := c25; simp only [ByteArray.size_append] at h_; exact h_))
                                      have H' := Aside0.mk H
                                      clear H
                                      have p191 : 0 ≤ (x4_1 : Int) := of_decide_eq_true (by first | (with_reducible assumption) | assumption)
                                      have q191 : x4_1 < (l0.length : Int) := of_decide_eq_true (by first | (with_reducible assumption) | assumption)
                                      obtain ⟨ad191, e191, hx191_0, hx191_1, hx191_2, hx191_3⟩ := at_T33 HR0.out x4_1 p191 q191
                                      obtain rfl : ad190 = ad191 := (by injection e191)
                                      replace p191 := eq_true p191
                                      replace q191 := eq_true q191
                                      have p192 : 0 ≤ (x4_1 : Int) := of_decide_eq_true (by first | (with_reducible assumption) | assumption)
                                      have q192 : x4_1 < (l0.length : Int) := of_decide_eq_true (by first | (with_reducible assumption) | assumption)
                                      obtain ⟨ad192, e192, hx192_0, hx192_1, hx192_2, hx192_3⟩ := at_T33 HR0.out x4_1 p192 q192
                                      obtain rfl : ad190 = ad192 := (by injection e192)
                                      replace p192 := eq_true p192
                                      replace q192 := eq_true q192
                                      go_wp2_with (first | ((with_reducible refine gate_callee (f := 16) rfl ?_); refine goesL_ (some 59) rfl rfl Try.func16 (by kernel_rfl) rfl #[.string ((rd_T33 l0 x4_1).f2)] rfl (by (try simp only [List.map_toArray, List.map_cons, List.map_nil]); first | done | rfl | (simp only [List.length_drop, List.length_take]; rfl)) ?_; (with_reducible refine (letterboxref07_Quoted.calls kj9 ((rd_T33 l0 x4_1).f2) t193 _ A18.out).mono ?_); rintro e w' ⟨rfl, ⟨nd, rfl⟩⟩; refine ⟨_, rfl, ?_⟩; have p194 : 0 ≤ (x4_1 : Int) := of_decide_eq_true (by first | (with_reducible assumption) | assumption); have q194 : x4_1 < (l0.length : Int) := of_decide_eq_true (by first | (with_reducible assumption) | assumption); obtain ⟨ad194, e194, hx194_0, hx194_1, hx194_2, hx194_3⟩ := at_T33 HR0.out x4_1 p194 q194; obtain rfl : ad190 = ad194 := (by injection e194); replace p194 := eq_true p194; replace q194 := eq_true q194; have p195 : 0 ≤ (x4_1 : Int) := of_decide_eq_true (by first | (with_reducible assumption) | assumption); have q195 : x4_1 < (l0.length : Int) := of_decide_eq_true (by first | (with_reducible assumption) | assumption); obtain ⟨ad195, e195, hx195_0, hx195_1, hx195_2, hx195_3⟩ := at_T33 HR0.out x4_1 p195 q195; obtain rfl : ad190 = ad195 := (by injection e195); replace p195 := eq_true p195; replace q195 := eq_true q195))
                                      go_meet
                                      case rel => exact ⟨_, (((x3_9 ++ ((⟨#[60]⟩ : ByteArray) ++ t193)) ++ ((⟨#[64]⟩ : ByteArray) ++ ((rd_T33 l0 x4_1).f3))) ++ (⟨#[62]⟩ : ByteArray)), (by first | rfl | (simp; done) | (simp [*]; done)), (by first | exact H' | (rw [hji5]; exact H')), ⟨by have := HK1.out; have := HJ2.out; have := HJ9.out; first | omega | exact Nat.le_refl _⟩, by repeat (first | exact Drawn0.refl _ | apply Drawn0.step)⟩
                                    · rw [if_neg c25] at H
                                      exact absurd H (by simp)
                                  · rw [if_neg c24] at H
                                    exact absurd H (by simp)
                                · rw [if_neg c23] at H
                                  exact absurd H (by simp)
                            · rw [if_neg c20] at H
                              exact absurd H (by simp)
                          · rw [if_neg c19] at H
                            exact absurd H (by simp)
                        · rw [if_neg c17] at H
                          have c17b0 : (((rd_T33 l0 x4_1).f1).toList == ([] : List UInt8)) = false := beq_eq_false_iff_ne.mpr c17
                          have c17b1 : (((rd_T33 l0 x4_1).f1).toList != ([] : List UInt8)) = true := bne_iff_ne.mpr c17
                          replace H := Option.bind_eq_some_iff.mp H
                          obtain ⟨t197, A260, H⟩ := H
                          replace H : (if t197.size + 1 ≤ 9223372036854775807 then (if x3_9.size + (t197 ++ (⟨#[32]⟩ : ByteArray)).size ≤ 9223372036854775807 then ((letterboxref07_Quoted.f kj9 ((rd_T33 l0 x4_1).f2)).bind fun t199 => (if 1 + t199.size ≤ 9223372036854775807 then (if (x3_9 ++ (t197 ++ (⟨#[32]⟩ : ByteArray))).size + ((⟨#[60]⟩ : ByteArray) ++ t199).size ≤ 9223372036854775807 then (if ((rd_T33 l0 x4_1).f3).toList = ([] : List UInt8) then (if ((x3_9 ++ (t197 ++ (⟨#[32]⟩ : ByteArray))) ++ ((⟨#[60]⟩ : ByteArray) ++ t199)).size + 1 ≤ 9223372036854775807 then (letterboxref10_Text.j3 kj9 l0 (((x3_9 ++ (t197 ++ (⟨#[32]⟩ : ByteArray))) ++ ((⟨#[60]⟩ : ByteArray) ++ t199)) ++ (⟨#[62]⟩ : ByteArray)) x4_1) else (none)) else (if 1 + ((rd_T33 l0 x4_1).f3).size ≤ 9223372036854775807 then (if ((x3_9 ++ (t197 ++ (⟨#[32]⟩ : ByteArray))) ++ ((⟨#[60]⟩ : ByteArray) ++ t199)).size + ((⟨#[64]⟩ : ByteArray) ++ ((rd_T33 l0 x4_1).f3)).size ≤ 9223372036854775807 then (if (((x3_9 ++ (t197 ++ (⟨#[32]⟩ : ByteArray))) ++ ((⟨#[60]⟩ : ByteArray) ++ t199)) ++ ((⟨#[64]⟩ : ByteArray) ++ ((rd_T33 l0 x4_1).f3))).size + 1 ≤ 9223372036854775807 then (letterboxref10_Text.j3 kj9 l0 ((((x3_9 ++ (t197 ++ (⟨#[32]⟩ : ByteArray))) ++ ((⟨#[60]⟩ : ByteArray) ++ t199)) ++ ((⟨#[64]⟩ : ByteArray) ++ ((rd_T33 l0 x4_1).f3))) ++ (⟨#[62]⟩ : ByteArray)) x4_1) else (none)) else (none)) else (none))) else (none)) else (none))) else (none)) else (none)) = some r := H
                          have A26 := Aside0.mk A260
                          clear A260
                          by_cases c27 : t197.size + 1 ≤ 9223372036854775807
                          · rw [if_pos c27] at H
                            have c27b0 := eq_true c27
                            have c27b1 : decide (t197.size + 1 ≤ 9223372036854775807) = true := decide_eq_true c27
                            try have c27b2 : (9223372036854775807 < t197.size + 1) = False := eq_false (Nat.not_lt.2 c27)
                            by_cases c28 : x3_9.size + (t197 ++ (⟨#[32]⟩ : ByteArray)).size ≤ 9223372036854775807
                            · rw [if_pos c28] at H
                              have c28b0 := eq_true c28
                              have c28b1 : decide (x3_9.size + (t197 ++ (⟨#[32]⟩ : ByteArray)).size ≤ 9223372036854775807) = true := decide_eq_true c28
                              try have c28b2 : (9223372036854775807 < x3_9.size + (t197 ++ (⟨#[32]⟩ : ByteArray)).size) = False := eq_false (Nat.not_lt.2 c28)
                              try have c28b4 : (9223372036854775807 < x3_9.size + (t197.size + 1)) = False := eq_false (Nat.not_lt.2 (by have h_ := c28; simp only [ByteArray.size_append] at h_; exact h_))
                              replace H := Option.bind_eq_some_iff.mp H
                              obtain ⟨t199, A290, H⟩ := H
                              replace H : (if 1 + t199.size ≤ 9223372036854775807 then (if (x3_9 ++ (t197 ++ (⟨#[32]⟩ : ByteArray))).size + ((⟨#[60]⟩ : ByteArray) ++ t199).size ≤ 9223372036854775807 then (if ((rd_T33 l0 x4_1).f3).toList = ([] : List UInt8) then (if ((x3_9 ++ (t197 ++ (⟨#[32]⟩ : ByteArray))) ++ ((⟨#[60]⟩ : ByteArray) ++ t199)).size + 1 ≤ 9223372036854775807 then (letterboxref10_Text.j3 kj9 l0 (((x3_9 ++ (t197 ++ (⟨#[32]⟩ : ByteArray))) ++ ((⟨#[60]⟩ : ByteArray) ++ t199)) ++ (⟨#[62]⟩ : ByteArray)) x4_1) else (none)) else (if 1 + ((rd_T33 l0 x4_1).f3).size ≤ 9223372036854775807 then (if ((x3_9 ++ (t197 ++ (⟨#[32]⟩ : ByteArray))) ++ ((⟨#[60]⟩ : ByteArray) ++ t199)).size + ((⟨#[64]⟩ : ByteArray) ++ ((rd_T33 l0 x4_1).f3)).size ≤ 9223372036854775807 then (if (((x3_9 ++ (t197 ++ (⟨#[32]⟩ : ByteArray))) ++ ((⟨#[60]⟩ : ByteArray) ++ t199)) ++ ((⟨#[64]⟩ : ByteArray) ++ ((rd_T33 l0 x4_1).f3))).size + 1 ≤ 9223372036854775807 then (letterboxref10_Text.j3 kj9 l0 ((((x3_9 ++ (t197 ++ (⟨#[32]⟩ : ByteArray))) ++ ((⟨#[60]⟩ : ByteArray) ++ t199)) ++ ((⟨#[64]⟩ : ByteArray) ++ ((rd_T33 l0 x4_1).f3))) ++ (⟨#[62]⟩ : ByteArray)) x4_1) else (none)) else (none)) else (none))) else (none)) else (none)) = some r := H
                              have A29 := Aside0.mk A290
                              clear A290
                              by_cases c30 : 1 + t199.size ≤ 9223372036854775807
                              · rw [if_pos c30] at H
                                have c30b0 := eq_true c30
                                have c30b1 : decide (1 + t199.size ≤ 9223372036854775807) = true := decide_eq_true c30
                                try have c30b2 : (9223372036854775807 < 1 + t199.size) = False := eq_false (Nat.not_lt.2 c30)
                                by_cases c31 : (x3_9 ++ (t197 ++ (⟨#[32]⟩ : ByteArray))).size + ((⟨#[60]⟩ : ByteArray) ++ t199).size ≤ 9223372036854775807
                                · rw [if_pos c31] at H
                                  have c31b0 := eq_true c31
                                  have c31b1 : decide ((x3_9 ++ (t197 ++ (⟨#[32]⟩ : ByteArray))).size + ((⟨#[60]⟩ : ByteArray) ++ t199).size ≤ 9223372036854775807) = true := decide_eq_true c31
                                  try have c31b2 : (9223372036854775807 < (x3_9 ++ (t197 ++ (⟨#[32]⟩ : ByteArray))).size + ((⟨#[60]⟩ : ByteArray) ++ t199).size) = False := eq_false (Nat.not_lt.2 c31)
                                  try have c31b4 : (9223372036854775807 < x3_9.size + (t197.size + 1) + (1 + t199.size)) = False := eq_false (Nat.not_lt.2 (by have h_ := c31; simp only [ByteArray.size_append] at h_; exact h_))
                                  by_cases c32 : ((rd_T33 l0 x4_1).f3).toList = ([] : List UInt8)
                                  · rw [if_pos c32] at H
                                    have c32b0 : (((rd_T33 l0 x4_1).f3).toList == ([] : List UInt8)) = true := beq_iff_eq.mpr c32
                                    have c32b1 : (((rd_T33 l0 x4_1).f3).toList != ([] : List UInt8)) = false := bne_eq_false_iff_eq.mpr c32
                                    clear c32
                                    by_cases c33 : ((x3_9 ++ (t197 ++ (⟨#[32]⟩ : ByteArray))) ++ ((⟨#[60]⟩ : ByteArray) ++ t199)).size + 1 ≤ 9223372036854775807
                                    · rw [if_pos c33] at H
                                      have c33b0 := eq_true c33
                                      have c33b1 : decide (((x3_9 ++ (t197 ++ (⟨#[32]⟩ : ByteArray))) ++ ((⟨#[60]⟩ : ByteArray) ++ t199)).size + 1 ≤ 9223372036854775807) = true := decide_eq_true c33
                                      try have c33b2 : (9223372036854775807 < ((x3_9 ++ (t197 ++ (⟨#[32]⟩ : ByteArray))) ++ ((⟨#[60]⟩ : ByteArray) ++ t199)).size + 1) = False := eq_false (Nat.not_lt.2 c33)
                                      try have c33b4 : (9223372036854775807 < x3_9.size + (t197.size + 1) + (1 + t199.size) + 1) = False := eq_false (Nat.not_lt.2 (by have h_ := c33; simp only [ByteArray.size_append] at h_; exact h_))
                                      have H' := Aside0.mk H
                                      clear H
                                      have p191 : 0 ≤ (x4_1 : Int) := of_decide_eq_true (by first | (with_reducible assumption) | assumption)
                                      have q191 : x4_1 < (l0.length : Int) := of_decide_eq_true (by first | (with_reducible assumption) | assumption)
                                      obtain ⟨ad191, e191, hx191_0, hx191_1, hx191_2, hx191_3⟩ := at_T33 HR0.out x4_1 p191 q191
                                      obtain rfl : ad190 = ad191 := (by injection e191)
                                      replace p191 := eq_true p191
                                      replace q191 := eq_true q191
                                      have p196 : 0 ≤ (x4_1 : Int) := of_decide_eq_true (by first | (with_reducible assumption) | assumption)
                                      have q196 : x4_1 < (l0.length : Int) := of_decide_eq_true (by first | (with_reducible assumption) | assumption)
                                      obtain ⟨ad196, e196, hx196_0, hx196_1, hx196_2, hx196_3⟩ := at_T33 HR0.out x4_1 p196 q196
                                      obtain rfl : ad190 = ad196 := (by injection e196)
                                      replace p196 := eq_true p196
                                      replace q196 := eq_true q196
                                      go_wp2_with (first | ((with_reducible refine gate_callee (f := 16) rfl ?_); refine goesL_ (some 50) rfl rfl Try.func16 (by kernel_rfl) rfl #[.string ((rd_T33 l0 x4_1).f1)] rfl (by (try simp only [List.map_toArray, List.map_cons, List.map_nil]); first | done | rfl | (simp only [List.length_drop, List.length_take]; rfl)) ?_; (with_reducible refine (letterboxref07_Quoted.calls kj9 ((rd_T33 l0 x4_1).f1) t197 _ A26.out).mono ?_); rintro e w' ⟨rfl, ⟨nd, rfl⟩⟩; refine ⟨_, rfl, ?_⟩; have p198 : 0 ≤ (x4_1 : Int) := of_decide_eq_true (by first | (with_reducible assumption) | assumption); have q198 : x4_1 < (l0.length : Int) := of_decide_eq_true (by first | (with_reducible assumption) | assumption); obtain ⟨ad198, e198, hx198_0, hx198_1, hx198_2, hx198_3⟩ := at_T33 HR0.out x4_1 p198 q198; obtain rfl : ad190 = ad198 := (by injection e198); replace p198 := eq_true p198; replace q198 := eq_true q198) | ((with_reducible refine gate_callee (f := 16) rfl ?_); refine goesL_ (some 59) rfl rfl Try.func16 (by kernel_rfl) rfl #[.string ((rd_T33 l0 x4_1).f2)] rfl (by (try simp only [List.map_toArray, List.map_cons, List.map_nil]); first | done | rfl | (simp only [List.length_drop, List.length_take]; rfl)) ?_; (with_reducible refine (letterboxref07_Quoted.calls kj9 ((rd_T33 l0 x4_1).f2) t199 _ A29.out).mono ?_); rintro e w' ⟨rfl, ⟨nd, rfl⟩⟩; refine ⟨_, rfl, ?_⟩; have p200 : 0 ≤ (x4_1 : Int) := of_decide_eq_true (by first | (with_reducible assumption) | assumption); have q200 : x4_1 < (l0.length : Int) := of_decide_eq_true (by first | (with_reducible assumption) | assumption); obtain ⟨ad200, e200, hx200_0, hx200_1, hx200_2, hx200_3⟩ := at_T33 HR0.out x4_1 p200 q200; obtain rfl : ad190 = ad200 := (by injection e200); replace p200 := eq_true p200; replace q200 := eq_true q200))
                                      go_meet
                                      case rel => exact ⟨_, (((x3_9 ++ (t197 ++ (⟨#[32]⟩ : ByteArray))) ++ ((⟨#[60]⟩ : ByteArray) ++ t199)) ++ (⟨#[62]⟩ : ByteArray)), (by first | rfl | (simp; done) | (simp [*]; done)), (by first | exact H' | (rw [hji5]; exact H')), ⟨by have := HK1.out; have := HJ2.out; have := HJ9.out; first | omega | exact Nat.le_refl _⟩, by repeat (first | exact Drawn0.refl _ | apply Drawn0.step)⟩
                                    · rw [if_neg c33] at H
                                      exact absurd H (by simp)
                                  · rw [if_neg c32] at H
                                    have c32b0 : (((rd_T33 l0 x4_1).f3).toList == ([] : List UInt8)) = false := beq_eq_false_iff_ne.mpr c32
                                    have c32b1 : (((rd_T33 l0 x4_1).f3).toList != ([] : List UInt8)) = true := bne_iff_ne.mpr c32
                                    by_cases c34 : 1 + ((rd_T33 l0 x4_1).f3).size ≤ 9223372036854775807
                                    · rw [if_pos c34] at H
                                      have c34b0 := eq_true c34
                                      have c34b1 : decide (1 + ((rd_T33 l0 x4_1).f3).size ≤ 9223372036854775807) = true := decide_eq_true c34
                                      try have c34b2 : (9223372036854775807 < 1 + ((rd_T33 l0 x4_1).f3).size) = False := eq_false (Nat.not_lt.2 c34)
                                      by_cases c35 : ((x3_9 ++ (t197 ++ (⟨#[32]⟩ : ByteArray))) ++ ((⟨#[60]⟩ : ByteArray) ++ t199)).size + ((⟨#[64]⟩ : ByteArray) ++ ((rd_T33 l0 x4_1).f3)).size ≤ 9223372036854775807
                                      · rw [if_pos c35] at H
                                        have c35b0 := eq_true c35
                                        have c35b1 : decide (((x3_9 ++ (t197 ++ (⟨#[32]⟩ : ByteArray))) ++ ((⟨#[60]⟩ : ByteArray) ++ t199)).size + ((⟨#[64]⟩ : ByteArray) ++ ((rd_T33 l0 x4_1).f3)).size ≤ 9223372036854775807) = true := decide_eq_true c35
                                        try have c35b2 : (9223372036854775807 < ((x3_9 ++ (t197 ++ (⟨#[32]⟩ : ByteArray))) ++ ((⟨#[60]⟩ : ByteArray) ++ t199)).size + ((⟨#[64]⟩ : ByteArray) ++ ((rd_T33 l0 x4_1).f3)).size) = False := eq_false (Nat.not_lt.2 c35)
                                        try have c35b4 : (9223372036854775807 < x3_9.size + (t197.size + 1) + (1 + t199.size) + (1 + (rd_T33 l0 x4_1).f3.size)) = False := eq_false (Nat.not_lt.2 (by have h_ := c35; simp only [ByteArray.size_append] at h_; exact h_))
                                        by_cases c36 : (((x3_9 ++ (t197 ++ (⟨#[32]⟩ : ByteArray))) ++ ((⟨#[60]⟩ : ByteArray) ++ t199)) ++ ((⟨#[64]⟩ : ByteArray) ++ ((rd_T33 l0 x4_1).f3))).size + 1 ≤ 9223372036854775807
                                        · rw [if_pos c36] at H
                                          have c36b0 := eq_true c36
                                          have c36b1 : decide ((((x3_9 ++ (t197 ++ (⟨#[32]⟩ : ByteArray))) ++ ((⟨#[60]⟩ : ByteArray) ++ t199)) ++ ((⟨#[64]⟩ : ByteArray) ++ ((rd_T33 l0 x4_1).f3))).size + 1 ≤ 9223372036854775807) = true := decide_eq_true c36
                                          try have c36b2 : (9223372036854775807 < (((x3_9 ++ (t197 ++ (⟨#[32]⟩ : ByteArray))) ++ ((⟨#[60]⟩ : ByteArray) ++ t199)) ++ ((⟨#[64]⟩ : ByteArray) ++ ((rd_T33 l0 x4_1).f3))).size + 1) = False := eq_false (Nat.not_lt.2 c36)
                                          try have c36b4 : (9223372036854775807 < x3_9.size + (t197.size + 1) + (1 + t199.size) + (1 + (rd_T33 l0 x4_1).f3.size) + 1) = False := eq_false (Nat.not_lt.2 (by have h_ := c36; simp only [ByteArray.size_append] at h_; exact h_))
                                          have H' := Aside0.mk H
                                          clear H
                                          have p191 : 0 ≤ (x4_1 : Int) := of_decide_eq_true (by first | (with_reducible assumption) | assumption)
                                          have q191 : x4_1 < (l0.length : Int) := of_decide_eq_true (by first | (with_reducible assumption) | assumption)
                                          obtain ⟨ad191, e191, hx191_0, hx191_1, hx191_2, hx191_3⟩ := at_T33 HR0.out x4_1 p191 q191
                                          obtain rfl : ad190 = ad191 := (by injection e191)
                                          replace p191 := eq_true p191
                                          replace q191 := eq_true q191
                                          have p196 : 0 ≤ (x4_1 : Int) := of_decide_eq_true (by first | (with_reducible assumption) | assumption)
                                          have q196 : x4_1 < (l0.length : Int) := of_decide_eq_true (by first | (with_reducible assumption) | assumption)
                                          obtain ⟨ad196, e196, hx196_0, hx196_1, hx196_2, hx196_3⟩ := at_T33 HR0.out x4_1 p196 q196
                                          obtain rfl : ad190 = ad196 := (by injection e196)
                                          replace p196 := eq_true p196
                                          replace q196 := eq_true q196
                                          go_wp2_with (first | ((with_reducible refine gate_callee (f := 16) rfl ?_); refine goesL_ (some 50) rfl rfl Try.func16 (by kernel_rfl) rfl #[.string ((rd_T33 l0 x4_1).f1)] rfl (by (try simp only [List.map_toArray, List.map_cons, List.map_nil]); first | done | rfl | (simp only [List.length_drop, List.length_take]; rfl)) ?_; (with_reducible refine (letterboxref07_Quoted.calls kj9 ((rd_T33 l0 x4_1).f1) t197 _ A26.out).mono ?_); rintro e w' ⟨rfl, ⟨nd, rfl⟩⟩; refine ⟨_, rfl, ?_⟩; have p198 : 0 ≤ (x4_1 : Int) := of_decide_eq_true (by first | (with_reducible assumption) | assumption); have q198 : x4_1 < (l0.length : Int) := of_decide_eq_true (by first | (with_reducible assumption) | assumption); obtain ⟨ad198, e198, hx198_0, hx198_1, hx198_2, hx198_3⟩ := at_T33 HR0.out x4_1 p198 q198; obtain rfl : ad190 = ad198 := (by injection e198); replace p198 := eq_true p198; replace q198 := eq_true q198) | ((with_reducible refine gate_callee (f := 16) rfl ?_); refine goesL_ (some 59) rfl rfl Try.func16 (by kernel_rfl) rfl #[.string ((rd_T33 l0 x4_1).f2)] rfl (by (try simp only [List.map_toArray, List.map_cons, List.map_nil]); first | done | rfl | (simp only [List.length_drop, List.length_take]; rfl)) ?_; (with_reducible refine (letterboxref07_Quoted.calls kj9 ((rd_T33 l0 x4_1).f2) t199 _ A29.out).mono ?_); rintro e w' ⟨rfl, ⟨nd, rfl⟩⟩; refine ⟨_, rfl, ?_⟩; have p200 : 0 ≤ (x4_1 : Int) := of_decide_eq_true (by first | (with_reducible assumption) | assumption); have q200 : x4_1 < (l0.length : Int) := of_decide_eq_true (by first | (with_reducible assumption) | assumption); obtain ⟨ad200, e200, hx200_0, hx200_1, hx200_2, hx200_3⟩ := at_T33 HR0.out x4_1 p200 q200; obtain rfl : ad190 = ad200 := (by injection e200); replace p200 := eq_true p200; replace q200 := eq_true q200; have p201 : 0 ≤ (x4_1 : Int) := of_decide_eq_true (by first | (with_reducible assumption) | assumption); have q201 : x4_1 < (l0.length : Int) := of_decide_eq_true (by first | (with_reducible assumption) | assumption); obtain ⟨ad201, e201, hx201_0, hx201_1, hx201_2, hx201_3⟩ := at_T33 HR0.out x4_1 p201 q201; obtain rfl : ad190 = ad201 := (by injection e201); replace p201 := eq_true p201; replace q201 := eq_true q201))
                                          go_meet
                                          case rel => exact ⟨_, ((((x3_9 ++ (t197 ++ (⟨#[32]⟩ : ByteArray))) ++ ((⟨#[60]⟩ : ByteArray) ++ t199)) ++ ((⟨#[64]⟩ : ByteArray) ++ ((rd_T33 l0 x4_1).f3))) ++ (⟨#[62]⟩ : ByteArray)), (by first | rfl | (simp; done) | (simp [*]; done)), (by first | exact H' | (rw [hji5]; exact H')), ⟨by have := HK1.out; have := HJ2.out; have := HJ9.out; first | omega | exact Nat.le_refl _⟩, by repeat (first | exact Drawn0.refl _ | apply Drawn0.step)⟩
                                        · rw [if_neg c36] at H
                                          exact absurd H (by simp)
                                      · rw [if_neg c35] at H
                                        exact absurd H (by simp)
                                    · rw [if_neg c34] at H
                                      exact absurd H (by simp)
                                · rw [if_neg c31] at H
                                  exact absurd H (by simp)
                              · rw [if_neg c30] at H
                                exact absurd H (by simp)
                            · rw [if_neg c28] at H
                              exact absurd H (by simp)
                          · rw [if_neg c27] at H
                            exact absurd H (by simp)
                      · rw [if_neg c16] at H
                        have c16b0 : (((rd_T33 l0 x4_1).f0) == 0) = false := beq_eq_false_iff_ne.mpr c16
                        have c16b1 : (((rd_T33 l0 x4_1).f0) != 0) = true := bne_iff_ne.mpr c16
                        (first | rw [c16b0] | (simp only [i64_w, i32_w]; rw [c16b0]) | skip)
                        have H' := Aside0.mk H
                        clear H
                        go_wp2
                        go_meet
                        case rel => exact ⟨_, (x3_9), (by first | rfl | (simp; done) | (simp [*]; done)), (by first | exact H' | (rw [hji5]; exact H')), ⟨by have := HK1.out; have := HJ2.out; have := HJ9.out; first | omega | exact Nat.le_refl _⟩, by repeat (first | exact Drawn0.refl _ | apply Drawn0.step)⟩
                    case rest =>
                      clear HC15
                      try clear c1
                      try clear p1
                      try clear q1
                      try clear hx1
                      try clear c2
                      try clear c2b0
                      try clear p2
                      try clear q2
                      try clear hx2
                      try clear c3
                      try clear c4
                      try clear c4b0
                      try clear c6
                      try clear c6b0
                      try clear p6
                      try clear c7
                      try clear c7b0
                      try clear c8
                      try clear c8b0
                      try clear c8b1
                      try clear c9
                      try clear c9b0
                      try clear c10
                      try clear c11
                      try clear c12
                      try clear c12b0
                      try clear c12b1
                      try clear c12b2
                      try clear c13
                      try clear c13b0
                      try clear c14
                      try clear c14b0
                      try clear c16
                      try clear c16b0
                      try clear c16b1
                      try clear c17
                      try clear c17b0
                      try clear c17b1
                      try clear p18
                      try clear q18
                      try clear hx18
                      try clear c19
                      try clear c19b0
                      try clear c19b1
                      try clear c19b2
                      try clear p19
                      try clear q19
                      try clear hx19
                      try clear c20
                      try clear c20b0
                      try clear c20b1
                      try clear c20b2
                      try clear p20
                      try clear q20
                      try clear hx20
                      try clear c21
                      try clear c21b0
                      try clear c21b1
                      try clear c22
                      try clear c22b0
                      try clear c22b1
                      try clear c22b2
                      try clear c23
                      try clear c23b0
                      try clear c23b1
                      try clear c23b2
                      try clear c24
                      try clear c24b0
                      try clear c24b1
                      try clear c24b2
                      try clear c25
                      try clear c25b0
                      try clear c25b1
                      try clear c25b2
                      try clear c27
                      try clear c27b0
                      try clear c27b1
                      try clear c27b2
                      try clear c28
                      try clear c28b0
                      try clear c28b1
                      try clear c28b2
                      try clear c30
                      try clear c30b0
                      try clear c30b1
                      try clear c30b2
                      try clear c31
                      try clear c31b0
                      try clear c31b1
                      try clear c31b2
                      try clear c32
                      try clear c32b0
                      try clear c32b1
                      try clear c33
                      try clear c33b0
                      try clear c33b1
                      try clear c33b2
                      try clear c34
                      try clear c34b0
                      try clear c34b1
                      try clear c34b2
                      try clear c35
                      try clear c35b0
                      try clear c35b1
                      try clear c35b2
                      try clear c36
                      try clear c36b0
                      try clear c36b1
                      try clear c36b2
                      try clear hx188_0
                      try clear hx188_1
                      try clear hx188_2
                      try clear hx188_3
                      try clear hx189_0
                      try clear hx189_1
                      try clear hx189_2
                      try clear hx189_3
                      try clear hx190_0
                      try clear hx190_1
                      try clear hx190_2
                      try clear hx190_3
                      try clear hx191_0
                      try clear hx191_1
                      try clear hx191_2
                      try clear hx191_3
                      try clear hx192_0
                      try clear hx192_1
                      try clear hx192_2
                      try clear hx192_3
                      try clear hx194_0
                      try clear hx194_1
                      try clear hx194_2
                      try clear hx194_3
                      try clear hx195_0
                      try clear hx195_1
                      try clear hx195_2
                      try clear hx195_3
                      try clear hx196_0
                      try clear hx196_1
                      try clear hx196_2
                      try clear hx196_3
                      try clear hx198_0
                      try clear hx198_1
                      try clear hx198_2
                      try clear hx198_3
                      try clear hx200_0
                      try clear hx200_1
                      try clear hx200_2
                      try clear hx200_3
                      try clear hx201_0
                      try clear hx201_1
                      try clear hx201_2
                      try clear hx201_3
                      try clear p1
                      try clear p188
                      try clear p189
                      try clear p190
                      try clear p191
                      try clear p192
                      try clear p194
                      try clear p195
                      try clear p196
                      try clear p198
                      try clear p2
                      try clear p200
                      try clear p201
                      try clear p6
                      try clear q1
                      try clear q188
                      try clear q189
                      try clear q190
                      try clear q191
                      try clear q192
                      try clear q194
                      try clear q195
                      try clear q196
                      try clear q198
                      try clear q200
                      try clear q201
                      obtain ⟨kq, x3_14, rfl, HA, HJ14, ⟨mc14, rfl⟩⟩ := hcut
                      cases kq with
                      | zero => exact absurd HA.out (by simp [letterboxref10_Text.j3])
                      | succ kj14 =>
                        have H := HA.out
                        clear HA
                        simp only [letterboxref10_Text.j3] at H
                        by_cases c37 : 0 ≤ x4_1
                        · rw [if_pos c37] at H
                          have c37b0 : decide (0 ≤ x4_1) = true := decide_eq_true c37
                          clear c37
                          by_cases c38 : x4_1 < (l0.length : Int)
                          · rw [if_pos c38] at H
                            have c38b0 : decide (x4_1 < (l0.length : Int)) = true := decide_eq_true c38
                            clear c38
                            by_cases c39 : ((rd_T33 l0 x4_1).f0) = 1
                            · rw [if_pos c39] at H
                              have c39b0 : (((rd_T33 l0 x4_1).f0) == 1) = true := beq_iff_eq.mpr c39
                              have c39b1 : (((rd_T33 l0 x4_1).f0) != 1) = false := bne_eq_false_iff_eq.mpr c39
                              clear c39
                              replace H := Option.bind_eq_some_iff.mp H
                              obtain ⟨t204, A400, H⟩ := H
                              replace H : (if t204.size + 1 ≤ 9223372036854775807 then (if x3_14.size + (t204 ++ (⟨#[58]⟩ : ByteArray)).size ≤ 9223372036854775807 then (if ((rd_T33 l0 x4_1).f0) = 2 then (if (x3_14 ++ (t204 ++ (⟨#[58]⟩ : ByteArray))).size + 1 ≤ 9223372036854775807 then (letterboxref10_Text.l0 kj14 l0 ((x3_14 ++ (t204 ++ (⟨#[58]⟩ : ByteArray))) ++ (⟨#[59]⟩ : ByteArray)) (wrap64 (x4_1 + 1))) else (none)) else (letterboxref10_Text.l0 kj14 l0 (x3_14 ++ (t204 ++ (⟨#[58]⟩ : ByteArray))) (wrap64 (x4_1 + 1)))) else (none)) else (none)) = some r := H
                              have A40 := Aside0.mk A400
                              clear A400
                              by_cases c41 : t204.size + 1 ≤ 9223372036854775807
                              · rw [if_pos c41] at H
                                have c41b0 := eq_true c41
                                have c41b1 : decide (t204.size + 1 ≤ 9223372036854775807) = true := decide_eq_true c41
                                try have c41b2 : (9223372036854775807 < t204.size + 1) = False := eq_false (Nat.not_lt.2 c41)
                                by_cases c42 : x3_14.size + (t204 ++ (⟨#[58]⟩ : ByteArray)).size ≤ 9223372036854775807
                                · rw [if_pos c42] at H
                                  have c42b0 := eq_true c42
                                  have c42b1 : decide (x3_14.size + (t204 ++ (⟨#[58]⟩ : ByteArray)).size ≤ 9223372036854775807) = true := decide_eq_true c42
                                  try have c42b2 : (9223372036854775807 < x3_14.size + (t204 ++ (⟨#[58]⟩ : ByteArray)).size) = False := eq_false (Nat.not_lt.2 c42)
                                  try have c42b4 : (9223372036854775807 < x3_14.size + (t204.size + 1)) = False := eq_false (Nat.not_lt.2 (by have h_ := c42; simp only [ByteArray.size_append] at h_; exact h_))
                                  by_cases c43 : ((rd_T33 l0 x4_1).f0) = 2
                                  · rw [if_pos c43] at H
                                    have c43b0 : (((rd_T33 l0 x4_1).f0) == 2) = true := beq_iff_eq.mpr c43
                                    have c43b1 : (((rd_T33 l0 x4_1).f0) != 2) = false := bne_eq_false_iff_eq.mpr c43
                                    clear c43
                                    by_cases c44 : (x3_14 ++ (t204 ++ (⟨#[58]⟩ : ByteArray))).size + 1 ≤ 9223372036854775807
                                    · rw [if_pos c44] at H
                                      have c44b0 := eq_true c44
                                      have c44b1 : decide ((x3_14 ++ (t204 ++ (⟨#[58]⟩ : ByteArray))).size + 1 ≤ 9223372036854775807) = true := decide_eq_true c44
                                      try have c44b2 : (9223372036854775807 < (x3_14 ++ (t204 ++ (⟨#[58]⟩ : ByteArray))).size + 1) = False := eq_false (Nat.not_lt.2 c44)
                                      try have c44b4 : (9223372036854775807 < x3_14.size + (t204.size + 1) + 1) = False := eq_false (Nat.not_lt.2 (by have h_ := c44; simp only [ByteArray.size_append] at h_; exact h_))
                                      have H' := Aside0.mk H
                                      clear H
                                      have p202 : 0 ≤ (x4_1 : Int) := of_decide_eq_true (by first | (with_reducible assumption) | assumption)
                                      have q202 : x4_1 < (l0.length : Int) := of_decide_eq_true (by first | (with_reducible assumption) | assumption)
                                      obtain ⟨ad202, e202, hx202_0, hx202_1, hx202_2, hx202_3⟩ := at_T33 HR0.out x4_1 p202 q202
                                      obtain rfl : ad190 = ad202 := (by injection e202)
                                      replace p202 := eq_true p202
                                      replace q202 := eq_true q202
                                      have p203 : 0 ≤ (x4_1 : Int) := of_decide_eq_true (by first | (with_reducible assumption) | assumption)
                                      have q203 : x4_1 < (l0.length : Int) := of_decide_eq_true (by first | (with_reducible assumption) | assumption)
                                      obtain ⟨ad203, e203, hx203_0, hx203_1, hx203_2, hx203_3⟩ := at_T33 HR0.out x4_1 p203 q203
                                      obtain rfl : ad190 = ad203 := (by injection e203)
                                      replace p203 := eq_true p203
                                      replace q203 := eq_true q203
                                      go_wp2_with (first | ((with_reducible refine gate_callee (f := 16) rfl ?_); refine goesL_ (some 90) rfl rfl Try.func16 (by kernel_rfl) rfl #[.string ((rd_T33 l0 x4_1).f1)] rfl (by (try simp only [List.map_toArray, List.map_cons, List.map_nil]); first | done | rfl | (simp only [List.length_drop, List.length_take]; rfl)) ?_; (with_reducible refine (letterboxref07_Quoted.calls kj14 ((rd_T33 l0 x4_1).f1) t204 _ A40.out).mono ?_); rintro e w' ⟨rfl, ⟨nd, rfl⟩⟩; refine ⟨_, rfl, ?_⟩; have p205 : 0 ≤ (x4_1 : Int) := of_decide_eq_true (by first | (with_reducible assumption) | assumption); have q205 : x4_1 < (l0.length : Int) := of_decide_eq_true (by first | (with_reducible assumption) | assumption); obtain ⟨ad205, e205, hx205_0, hx205_1, hx205_2, hx205_3⟩ := at_T33 HR0.out x4_1 p205 q205; obtain rfl : ad190 = ad205 := (by injection e205); replace p205 := eq_true p205; replace q205 := eq_true q205))
                                      go_roundg kj14
                                      case measure => have := HK1.out; have := HJ2.out; have := HJ9.out; have := HJ14.out; omega
                                      case rel => exact ⟨((x3_14 ++ (t204 ++ (⟨#[58]⟩ : ByteArray))) ++ (⟨#[59]⟩ : ByteArray)), (wrap64 (x4_1 + 1)), (by first | rfl | (simp; done) | (simp [*]; done)), (by first | rfl | (simp; done) | (simp [*]; done)), H', ⟨by have := HK1.out; have := HJ2.out; have := HJ9.out; have := HJ14.out; omega⟩, by repeat (first | exact Drawn0.refl _ | apply Drawn0.step)⟩
                                    · rw [if_neg c44] at H
                                      exact absurd H (by simp)
                                  · rw [if_neg c43] at H
                                    have c43b0 : (((rd_T33 l0 x4_1).f0) == 2) = false := beq_eq_false_iff_ne.mpr c43
                                    have c43b1 : (((rd_T33 l0 x4_1).f0) != 2) = true := bne_iff_ne.mpr c43
                                    have H' := Aside0.mk H
                                    clear H
                                    have p202 : 0 ≤ (x4_1 : Int) := of_decide_eq_true (by first | (with_reducible assumption) | assumption)
                                    have q202 : x4_1 < (l0.length : Int) := of_decide_eq_true (by first | (with_reducible assumption) | assumption)
                                    obtain ⟨ad202, e202, hx202_0, hx202_1, hx202_2, hx202_3⟩ := at_T33 HR0.out x4_1 p202 q202
                                    obtain rfl : ad190 = ad202 := (by injection e202)
                                    replace p202 := eq_true p202
                                    replace q202 := eq_true q202
                                    have p203 : 0 ≤ (x4_1 : Int) := of_decide_eq_true (by first | (with_reducible assumption) | assumption)
                                    have q203 : x4_1 < (l0.length : Int) := of_decide_eq_true (by first | (with_reducible assumption) | assumption)
                                    obtain ⟨ad203, e203, hx203_0, hx203_1, hx203_2, hx203_3⟩ := at_T33 HR0.out x4_1 p203 q203
                                    obtain rfl : ad190 = ad203 := (by injection e203)
                                    replace p203 := eq_true p203
                                    replace q203 := eq_true q203
                                    go_wp2_with (first | ((with_reducible refine gate_callee (f := 16) rfl ?_); refine goesL_ (some 90) rfl rfl Try.func16 (by kernel_rfl) rfl #[.string ((rd_T33 l0 x4_1).f1)] rfl (by (try simp only [List.map_toArray, List.map_cons, List.map_nil]); first | done | rfl | (simp only [List.length_drop, List.length_take]; rfl)) ?_; (with_reducible refine (letterboxref07_Quoted.calls kj14 ((rd_T33 l0 x4_1).f1) t204 _ A40.out).mono ?_); rintro e w' ⟨rfl, ⟨nd, rfl⟩⟩; refine ⟨_, rfl, ?_⟩; have p205 : 0 ≤ (x4_1 : Int) := of_decide_eq_true (by first | (with_reducible assumption) | assumption); have q205 : x4_1 < (l0.length : Int) := of_decide_eq_true (by first | (with_reducible assumption) | assumption); obtain ⟨ad205, e205, hx205_0, hx205_1, hx205_2, hx205_3⟩ := at_T33 HR0.out x4_1 p205 q205; obtain rfl : ad190 = ad205 := (by injection e205); replace p205 := eq_true p205; replace q205 := eq_true q205))
                                    go_roundg kj14
                                    case measure => have := HK1.out; have := HJ2.out; have := HJ9.out; have := HJ14.out; omega
                                    case rel => exact ⟨(x3_14 ++ (t204 ++ (⟨#[58]⟩ : ByteArray))), (wrap64 (x4_1 + 1)), (by first | rfl | (simp; done) | (simp [*]; done)), (by first | rfl | (simp; done) | (simp [*]; done)), H', ⟨by have := HK1.out; have := HJ2.out; have := HJ9.out; have := HJ14.out; omega⟩, by repeat (first | exact Drawn0.refl _ | apply Drawn0.step)⟩
                                · rw [if_neg c42] at H
                                  exact absurd H (by simp)
                              · rw [if_neg c41] at H
                                exact absurd H (by simp)
                            · rw [if_neg c39] at H
                              have c39b0 : (((rd_T33 l0 x4_1).f0) == 1) = false := beq_eq_false_iff_ne.mpr c39
                              have c39b1 : (((rd_T33 l0 x4_1).f0) != 1) = true := bne_iff_ne.mpr c39
                              by_cases c45 : ((rd_T33 l0 x4_1).f0) = 2
                              · rw [if_pos c45] at H
                                have c45b0 : (((rd_T33 l0 x4_1).f0) == 2) = true := beq_iff_eq.mpr c45
                                have c45b1 : (((rd_T33 l0 x4_1).f0) != 2) = false := bne_eq_false_iff_eq.mpr c45
                                clear c45
                                by_cases c46 : x3_14.size + 1 ≤ 9223372036854775807
                                · rw [if_pos c46] at H
                                  have c46b0 := eq_true c46
                                  have c46b1 : decide (x3_14.size + 1 ≤ 9223372036854775807) = true := decide_eq_true c46
                                  try have c46b2 : (9223372036854775807 < x3_14.size + 1) = False := eq_false (Nat.not_lt.2 c46)
                                  have H' := Aside0.mk H
                                  clear H
                                  have p202 : 0 ≤ (x4_1 : Int) := of_decide_eq_true (by first | (with_reducible assumption) | assumption)
                                  have q202 : x4_1 < (l0.length : Int) := of_decide_eq_true (by first | (with_reducible assumption) | assumption)
                                  obtain ⟨ad202, e202, hx202_0, hx202_1, hx202_2, hx202_3⟩ := at_T33 HR0.out x4_1 p202 q202
                                  obtain rfl : ad190 = ad202 := (by injection e202)
                                  replace p202 := eq_true p202
                                  replace q202 := eq_true q202
                                  have p206 : 0 ≤ (x4_1 : Int) := of_decide_eq_true (by first | (with_reducible assumption) | assumption)
                                  have q206 : x4_1 < (l0.length : Int) := of_decide_eq_true (by first | (with_reducible assumption) | assumption)
                                  obtain ⟨ad206, e206, hx206_0, hx206_1, hx206_2, hx206_3⟩ := at_T33 HR0.out x4_1 p206 q206
                                  obtain rfl : ad190 = ad206 := (by injection e206)
                                  replace p206 := eq_true p206
                                  replace q206 := eq_true q206
                                  go_wp2
                                  go_roundg kj14
                                  case measure => have := HK1.out; have := HJ2.out; have := HJ9.out; have := HJ14.out; omega
                                  case rel => exact ⟨(x3_14 ++ (⟨#[59]⟩ : ByteArray)), (wrap64 (x4_1 + 1)), (by first | rfl | (simp; done) | (simp [*]; done)), (by first | rfl | (simp; done) | (simp [*]; done)), H', ⟨by have := HK1.out; have := HJ2.out; have := HJ9.out; have := HJ14.out; omega⟩, by repeat (first | exact Drawn0.refl _ | apply Drawn0.step)⟩
                                · rw [if_neg c46] at H
                                  exact absurd H (by simp)
                              · rw [if_neg c45] at H
                                have c45b0 : (((rd_T33 l0 x4_1).f0) == 2) = false := beq_eq_false_iff_ne.mpr c45
                                have c45b1 : (((rd_T33 l0 x4_1).f0) != 2) = true := bne_iff_ne.mpr c45
                                have H' := Aside0.mk H
                                clear H
                                have p202 : 0 ≤ (x4_1 : Int) := of_decide_eq_true (by first | (with_reducible assumption) | assumption)
                                have q202 : x4_1 < (l0.length : Int) := of_decide_eq_true (by first | (with_reducible assumption) | assumption)
                                obtain ⟨ad202, e202, hx202_0, hx202_1, hx202_2, hx202_3⟩ := at_T33 HR0.out x4_1 p202 q202
                                obtain rfl : ad190 = ad202 := (by injection e202)
                                replace p202 := eq_true p202
                                replace q202 := eq_true q202
                                have p206 : 0 ≤ (x4_1 : Int) := of_decide_eq_true (by first | (with_reducible assumption) | assumption)
                                have q206 : x4_1 < (l0.length : Int) := of_decide_eq_true (by first | (with_reducible assumption) | assumption)
                                obtain ⟨ad206, e206, hx206_0, hx206_1, hx206_2, hx206_3⟩ := at_T33 HR0.out x4_1 p206 q206
                                obtain rfl : ad190 = ad206 := (by injection e206)
                                replace p206 := eq_true p206
                                replace q206 := eq_true q206
                                go_wp2
                                go_roundg kj14
                                case measure => have := HK1.out; have := HJ2.out; have := HJ9.out; have := HJ14.out; omega
                                case rel => exact ⟨(x3_14), (wrap64 (x4_1 + 1)), (by first | rfl | (simp; done) | (simp [*]; done)), (by first | rfl | (simp; done) | (simp [*]; done)), H', ⟨by have := HK1.out; have := HJ2.out; have := HJ9.out; have := HJ14.out; omega⟩, by repeat (first | exact Drawn0.refl _ | apply Drawn0.step)⟩
                          · rw [if_neg c38] at H
                            exact absurd H (by simp)
                        · rw [if_neg c37] at H
                          exact absurd H (by simp)
                  · rw [if_neg c14] at H
                    exact absurd H (by simp)
                · rw [if_neg c13] at H
                  exact absurd H (by simp)
      · rw [if_neg c2] at H
        have c2b0 : decide (x4_1 < (l0.length : Int)) = false := decide_eq_false c2
        clear c2
        obtain rfl := Option.some.inj H
        go_wp2
        go_ret
        exact ⟨by first | rfl | (simp; done) | (simp [*]; done), by repeat (first | exact Drawn0.refl _ | apply Drawn0.step)⟩

end Go.Proofs.Ytcjepgofcojeoaa.P
