/- The law LinesWithin holds of every row of bytes and every two numbers: a part that doesn't stand within has no lines; one that does has as many as its line feeds, and one more for what is left. No condition. -/
import Derived.Test.YtfpdamppppbkiaaLines
import Derived.Test.YtfpdamppppbkiaaPx4
set_option linter.unusedVariables false
namespace Go.Proofs.Ytfpdamppppbkiaa.Pure
open Go.RowKit Go.Proofs.Ytfpdamppppbkiaa.P Go.Proofs.YtfpdamppppbkiaaW.PrintWords Go.Proofs.YtfpdamppppbkiaaW.PrintLast Go.Proofs.Ytfpdamppppbkiaa.Aids Go.Proofs.Ytfpdamppppbkiaa.Lin

theorem count_eq (b : List Int) (x y : Int) (hl : b.length ≤ 100000) : lines_Count.f b x y = some (if 0 ≤ x ∧ x ≤ y ∧ y ≤ (b.length : Int) then ((ln_from b y.toNat x.toNat).length : Int) else 0) := if_pos hl
/-- how many line feeds -/
def cnt (b : List Int) : Nat → Nat → Nat
  | _, 0 => 0
  | i, d + 1 => (if rd b (i : Int) = 10 then 1 else 0) + cnt b (i + 1) d
theorem cnt_le (b : List Int) : ∀ d i, cnt b i d ≤ d
  | 0, i => Nat.le_refl _
  | d + 1, i => by
    have := cnt_le b d (i + 1)
    show (if rd b (i : Int) = 10 then 1 else 0) + cnt b (i + 1) d ≤ d + 1
    split <;> omega
theorem cnt_add (b : List Int) : ∀ (m d i : Nat), cnt b i (m + d) = cnt b i m + cnt b (i + m) d
  | 0, d, i => by simp [cnt]
  | m + 1, d, i => by
    rw [show m + 1 + d = (m + d) + 1 by omega]
    show (if rd b (i : Int) = 10 then 1 else 0) + cnt b (i + 1) (m + d) = (if rd b (i : Int) = 10 then 1 else 0) + cnt b (i + 1) m + _
    rw [cnt_add b m d (i + 1), show i + 1 + m = i + (m + 1) by omega]; omega
theorem cnt_none (b : List Int) : ∀ (d i : Nat), (∀ j : Nat, i ≤ j → j < i + d → rd b (j : Int) ≠ 10) → cnt b i d = 0
  | 0, i, h => rfl
  | d + 1, i, h => by
    show (if rd b (i : Int) = 10 then 1 else 0) + cnt b (i + 1) d = 0
    rw [if_neg (h i (Nat.le_refl _) (by omega)), cnt_none b d (i + 1) (fun j h1 h2 => h j (by omega) (by omega))]
theorem count_lines (b : List Int) (en : Nat) (he : en ≤ b.length) (d : Nat) : ∀ at_ : Nat, en - at_ ≤ d → at_ ≤ en →
    (ln_from b en at_).length = cnt b at_ (en - at_) + (if at_ < en ∧ rd b ((en - 1 : Nat) : Int) ≠ 10 then 1 else 0) := by
  induction d using Nat.strongRecOn with
  | _ d ih =>
    intro at_ hd ha
    by_cases hlt : at_ < en
    · have hs := nx_spec b en at_ hlt he
      have hnl := ln_nx_lt b en at_ hlt
      rw [ln_from_step b _ _ hlt, List.length_cons]
      rcases hs with ⟨m, hm, h10, hno, _, h2, _⟩ | ⟨hno, h⟩
      · rw [h2, Int.toNat_natCast] at *
        have := ih (d - 1) (by omega) (at_ + m + 1) (by omega) (by omega)
        rw [this, show en - at_ = (m + 1) + (en - (at_ + m + 1)) by omega, cnt_add, cnt_add, cnt_none b m at_ hno]
        have e1 : cnt b (at_ + m) 1 = 1 := by show (if rd b ((at_ + m : Nat) : Int) = 10 then 1 else 0) + 0 = 1; rw [if_pos h10]
        rw [e1, show at_ + (m + 1) = at_ + m + 1 by omega]
        by_cases hz : at_ + m + 1 < en
        · by_cases hq : rd b ((en - 1 : Nat) : Int) ≠ 10
          · rw [if_pos ⟨hz, hq⟩, if_pos ⟨hlt, hq⟩]; omega
          · rw [if_neg (fun h => hq h.2), if_neg (fun h => hq h.2)]; omega
        · have : en - 1 = at_ + m := by omega
          rw [if_neg (fun h => hz h.1), if_neg (fun h => h.2 (by rw [this]; exact h10))]; omega
      · rw [h]
        show (ln_from b en (en : Int).toNat).length + 1 = _
        rw [Int.toNat_natCast, ln_from_end b _ _ (by omega), cnt_none b _ at_ (fun j h1 h2 => hno j h1 (by omega)), if_pos ⟨hlt, hno (en - 1) (by omega) (by omega)⟩]; rfl
    · rw [ln_from_end b _ _ hlt, show en - at_ = 0 by omega, if_neg (fun h => hlt h.1)]; rfl
theorem within_l0 (b : List Int) (hl : b.length ≤ 300) (fr en : Nat) (hfe : fr ≤ en) (he : en ≤ b.length) (d : Nat) : ∀ i n : Nat, en - i ≤ d → fr ≤ i → i ≤ en → n = cnt b fr (i - fr) →
    Ev (fun k => letterboxlaw05_LinesWithin.l0 k b (fr : Int) (en : Int) (n : Int) (i : Int) (fr : Int) (en : Int)) true := by
  have hc := count_lines b en he (en - fr) fr (Nat.le_refl _) hfe
  have hcount : lines_Count.f b (fr : Int) (en : Int) = some ((ln_from b en fr).length : Int) := by
    rw [count_eq b _ _ (by omega), if_pos ⟨by omega, by omega, by omega⟩, Int.toNat_natCast, Int.toNat_natCast]
  have hcl := cnt_le b (en - fr) fr
  have fin_ : ∀ i n : Nat, ¬ i < en → n = cnt b fr (en - fr) → Ev (fun k => letterboxlaw05_LinesWithin.l0 k b (fr : Int) (en : Int) (n : Int) (i : Int) (fr : Int) (en : Int)) true := by
    intro i n hi hn
    refine st (fun k => by rw [letterboxlaw05_LinesWithin.l0]) ?_
    have e1 : Aside0 (wrap64 ((en : Int) - 1) = (((en - 1 : Nat) : Int))  ∨ en = 0) := ⟨by
      by_cases h : en = 0
      · exact .inr h
      · exact .inl (by rw [w64 (by omega) (by omega)]; omega)⟩
    have e2 : Aside0 (wrap64 ((n : Int) + 1) = ((n + 1 : Nat) : Int)) := ⟨by rw [w64 (by omega) (by omega)]; omega⟩
    rw [e2.out, hcount]
    refine no (by omega) ?_
    by_cases hgt : fr < en
    · rcases e1.out with e1 | e1
      · have E1 := Aside0.mk e1
        clear e1
        rw [E1.out]
        refine yes (by omega) (yes (by omega) (yes (by omega) ?_))
        by_cases h10 : rd b ((en - 1 : Nat) : Int) = 10
        · rw [if_neg (fun h => h.2 h10)] at hc
          exact yes h10 (bs (fin (by rw [beq_iff_eq, hc, hn]; omega)))
        · rw [if_pos ⟨hgt, h10⟩] at hc
          exact no h10 (bs (fin (by rw [beq_iff_eq, hc, hn])))
      · omega
    · rw [if_neg (fun h => hgt h.1)] at hc
      exact no (by omega) (bs (fin (by rw [beq_iff_eq, hc, hn]; omega)))
  induction d with
  | zero => intro i n hd h1 h2 hn; exact fin_ i n (by omega) (by rw [hn, show i = en by omega])
  | succ d ih =>
    intro i n hd h1 h2 hn
    by_cases hi : i < en
    · have hcn := cnt_le b (i - fr) fr
      have e1 : Aside0 (wrap64 ((i : Int) + 1) = ((i + 1 : Nat) : Int)) := ⟨by rw [w64 (by omega) (by omega)]; omega⟩
      have e2 : Aside0 (wrap64 ((n : Int) + 1) = ((n + 1 : Nat) : Int)) := ⟨by rw [w64 (by omega) (by omega)]; omega⟩
      have hstep : cnt b fr (i + 1 - fr) = cnt b fr (i - fr) + (if rd b (i : Int) = 10 then 1 else 0) := by
        rw [show i + 1 - fr = (i - fr) + 1 by omega, cnt_add, show fr + (i - fr) = i by omega]
        show _ + ((if rd b (i : Int) = 10 then 1 else 0) + 0) = _
        omega
      refine st (fun k => by rw [letterboxlaw05_LinesWithin.l0]) ?_
      rw [e1.out, e2.out]
      refine yes (by omega) (yes (by omega) (yes (by omega) ?_))
      by_cases h10 : rd b (i : Int) = 10
      · rw [if_pos h10] at hstep
        exact yes h10 (ih (i + 1) (n + 1) (by omega) (by omega) (by omega) (by omega))
      · rw [if_neg h10] at hstep
        exact no h10 (ih (i + 1) n (by omega) (by omega) (by omega) (by omega))
    · exact fin_ i n hi (by rw [hn, show i = en by omega])
theorem LinesWithin : letterboxlaw05_LinesWithin.Pure := by
  intro b x y _ _ h3 h4 h5
  refine Ev.rounds (g := fun k => letterboxlaw05_LinesWithin.f k b x y) ?_
  show Ev (fun k => (letterboxlaw05_awake.f).bind _) _
  refine bs ?_
  refine yes rfl ?_
  by_cases h : (b.length : Int) > 300
  · exact yes h (fin rfl)
  refine no h ?_
  have hout : ¬ (0 ≤ x ∧ x ≤ y ∧ y ≤ (b.length : Int)) → Ev (fun k => letterboxlaw05_LinesWithin.j0 k b x y false x y) true := by
    intro hn
    refine st (fun k => by rw [letterboxlaw05_LinesWithin.j0]) ?_
    have hw : lines_Within.f x y (b.length : Int) = some false := by
      unfold lines_Within.f
      by_cases a1 : x ≥ 0
      · rw [if_pos a1]
        by_cases a2 : x ≤ y
        · rw [if_pos a2, decide_eq_false (fun h => hn ⟨a1, a2, h⟩)]
        · rw [if_neg a2]
      · rw [if_neg a1]
    rw [hw, count_eq b x y (by omega), of_eq b x y (by omega), if_neg hn, if_neg hn]
    refine bs (no (by decide) (no (by decide) (bs (yes rfl (bs (yes rfl (bs (fin ?_))))))))
    show ((ln_txt b x y).toList == []) = true
    rw [show ln_txt b x y = ⟨#[]⟩ from if_neg hn, ByteArray.toList_eq]; rfl
  by_cases a1 : 0 ≤ x
  · refine yes a1 ?_
    by_cases a2 : x ≤ y
    · refine yes a2 ?_
      by_cases a3 : y ≤ (b.length : Int)
      · rw [decide_eq_true a3]
        obtain ⟨fr, rfl⟩ : ∃ fr : Nat, x = (fr : Int) := ⟨x.toNat, by omega⟩
        obtain ⟨en, rfl⟩ : ∃ en : Nat, y = (en : Int) := ⟨y.toNat, by omega⟩
        refine st (fun k => by rw [letterboxlaw05_LinesWithin.j0]) ?_
        have hw : lines_Within.f (fr : Int) (en : Int) (b.length : Int) = some true := by
          unfold lines_Within.f
          rw [if_pos a1, if_pos a2, decide_eq_true a3]
        rw [hw]
        refine bs (no (by decide) (yes rfl ?_))
        exact within_l0 b (by omega) fr en (by omega) (by omega) en fr 0 (by omega) (by omega) (by omega) (by rw [Nat.sub_self]; rfl)
      · rw [decide_eq_false a3]
        exact hout (fun h => a3 h.2.2)
    · exact no a2 (hout (fun h => a2 h.2.1))
  · exact no a1 (hout (fun h => a1 h.1))
end Go.Proofs.Ytfpdamppppbkiaa.Pure
