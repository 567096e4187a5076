/- The law LinesAll holds of every row of bytes: lines stand one behind the other, are all of the part, and none has a line feed in its text. No condition. -/
import Derived.Test.YtfpdamppppbkiaaLines
import Derived.Test.YtfpdamppppbkiaaPx2
set_option linter.unusedVariables false
namespace Go.Proofs.Ytfpdamppppbkiaa.Pure
open Go.RowKit Go.Proofs.Ytfpdamppppbkiaa.P Go.Proofs.YtfpdamppppbkiaaW.PrintWords Go.Proofs.YtfpdamppppbkiaaW.PrintLast Go.Proofs.Ytfpdamppppbkiaa.Aids Go.Proofs.Ytfpdamppppbkiaa.Lin

theorem all_l1 (b : List Int) (l : List S29) (i : Nat) (x : S29) (hi : i < l.length) (hx : rd_T29 l (i : Int) = x) (f1 f2 : Nat) (h1 : x.f1 = (f1 : Int)) (h2 : x.f2 = (f2 : Int)) (hb : f1 ≤ b.length) (hf2 : 1 ≤ f2 ∧ f2 ≤ b.length) (hlen : b.length ≤ 1000) (hll : l.length ≤ 1000)
    (hnext : Ev (fun k => letterboxlaw05_LinesAll.l0 k b l (f2 : Int) ((i + 1 : Nat) : Int)) true) (hlast : i + 1 < l.length → rd b ((f2 - 1 : Nat) : Int) = 10) (d : Nat) : ∀ j : Nat, f1 - j ≤ d → (∀ q : Nat, j ≤ q → q < f1 → rd b (q : Int) ≠ 10) →
    Ev (fun k => letterboxlaw05_LinesAll.l1 k b l (i : Int) (j : Int)) true := by
  have ei : wrap64 ((i : Int) + 1) = ((i + 1 : Nat) : Int) := by rw [w64 (by omega) (by omega)]; omega
  have ef : wrap64 ((f2 : Int) - 1) = ((f2 - 1 : Nat) : Int) := by rw [w64 (by omega) (by omega)]; omega
  have el : wrap64 ((l.length : Int) - 1) = ((l.length - 1 : Nat) : Int) := by rw [w64 (by omega) (by omega)]; omega
  have EI := Aside0.mk ei
  have EF := Aside0.mk ef
  have EL := Aside0.mk el
  clear ei ef el
  have fin_ : ∀ j : Nat, ¬ j < f1 → Ev (fun k => letterboxlaw05_LinesAll.l1 k b l (i : Int) (j : Int)) true := by
    intro j hj
    refine st (fun k => by rw [letterboxlaw05_LinesAll.l1]) ?_
    rw [hx, h1, h2, EI.out, EF.out, EL.out]
    refine yes (by omega) (yes (by omega) (no (by omega) ?_))
    by_cases hz : i + 1 < l.length
    · exact yes (by omega) (yes (by omega) (yes (by omega) (yes (hlast hz) hnext)))
    · exact no (by omega) hnext
  induction d with
  | zero => intro j hd _; exact fin_ j (by omega)
  | succ d ih =>
    intro j hd hq
    by_cases hj : j < f1
    · refine st (fun k => by rw [letterboxlaw05_LinesAll.l1]) ?_
      have ej : Aside0 (wrap64 ((j : Int) + 1) = ((j + 1 : Nat) : Int)) := ⟨by rw [w64 (by omega) (by omega)]; omega⟩
      rw [hx, h1, ej.out]
      exact yes (by omega) (yes (by omega) (yes (by omega) (yes (by omega) (yes (by omega) (no (hq j (Nat.le_refl _) hj) (ih (j + 1) (by omega) (fun q h => hq q (by omega))))))))
    · exact fin_ j hj
theorem all_l0 (b : List Int) (hlen : b.length ≤ 1000) (l : List S29) (hll : l.length ≤ 1000) (d : Nat) : ∀ (at_ i : Nat), b.length - at_ ≤ d → at_ ≤ b.length → l.drop i = ln_from b b.length at_ →
    Ev (fun k => letterboxlaw05_LinesAll.l0 k b l (at_ : Int) (i : Int)) true := by
  induction d using Nat.strongRecOn with
  | _ d ih =>
    intro at_ i hd ha hdr
    by_cases hlt : at_ < b.length
    · rw [ln_from_step b _ _ hlt] at hdr
      obtain ⟨hi, hx, hdr2⟩ := drop_T hdr
      have hs := nx_spec b b.length at_ hlt (Nat.le_refl _)
      have hnl := ln_nx_lt b b.length at_ hlt
      generalize ln_nx b b.length at_ = x at *
      have hf0 : x.f0 = (at_ : Int) := by
        rcases hs with ⟨m, _, _, _, h, _⟩ | ⟨_, h⟩
        · exact h
        · rw [h]
      obtain ⟨f2, hf2⟩ : ∃ f2 : Nat, x.f2 = (f2 : Int) := ⟨_, hnl.2.2⟩
      obtain ⟨f1, hf1⟩ : ∃ f1 : Nat, x.f1 = (f1 : Int) := by
        rcases hs with ⟨m, _, _, _, _, _, h⟩ | ⟨_, h⟩
        · rw [h]; split <;> exact ⟨_, rfl⟩
        · rw [h]; exact ⟨_, rfl⟩
      rw [hf2, Int.toNat_natCast] at hnl hdr2
      have hbnd : at_ ≤ f1 ∧ f1 ≤ f2 ∧ f2 ≤ f1 + 2 := by
        rcases hs with ⟨m, hm, _, _, _, h2, h1⟩ | ⟨_, h⟩
        · rw [hf2] at h2
          rw [hf1] at h1
          split at h1 <;> omega
        · rw [h] at hf1 hf2
          dsimp only at hf1 hf2
          omega
      have hno : ∀ q : Nat, at_ ≤ q → q < f1 → rd b (q : Int) ≠ 10 := by
        rcases hs with ⟨m, hm, _, hq, _, _, h1⟩ | ⟨hq, h⟩
        · intro q ha hq1
          rw [hf1] at h1
          exact hq q ha (by split at h1 <;> omega)
        · intro q ha hq1
          exact hq q ha (by omega)
      have hlast : i + 1 < l.length → rd b ((f2 - 1 : Nat) : Int) = 10 := by
        intro hz
        rcases hs with ⟨m, hm, h10, _, _, h2, _⟩ | ⟨_, h⟩
        · rw [hf2] at h2
          rw [show f2 - 1 = at_ + m by omega]; exact h10
        · exfalso
          rw [h] at hf2
          dsimp only at hf2
          rw [ln_from_end b _ _ (by omega)] at hdr2
          have := drop_T_nil hdr2
          omega
      clear hs
      refine st (fun k => by rw [letterboxlaw05_LinesAll.l0]) ?_
      have e2 : Aside0 (wrap64 ((f1 : Int) + 2) = ((f1 + 2 : Nat) : Int)) := ⟨by rw [w64 (by omega) (by omega)]; omega⟩
      rw [hx, hf0, hf1, hf2, e2.out]
      refine yes (by omega) (yes (by omega) (yes rfl (no (by omega) (no (by omega) (no (by omega) (no (by omega) ?_))))))
      refine st (fun k => by rw [letterboxlaw05_LinesAll.j1]) ?_
      refine no (by rw [decide_eq_false (by omega)]; decide) (yes (by omega) (yes (by omega) ?_))
      rw [hx, hf0]
      exact all_l1 b l i x hi hx f1 f2 hf1 hf2 (by omega) (by omega) hlen hll (ih (d - 1) (by omega) f2 (i + 1) (by omega) (by omega) hdr2) hlast f1 at_ (by omega) hno
    · rw [ln_from_end b _ _ hlt] at hdr
      have := drop_T_nil hdr
      refine st (fun k => by rw [letterboxlaw05_LinesAll.l0]) ?_
      exact no (by omega) (fin (by rw [beq_iff_eq]; omega))
theorem LinesAll : letterboxlaw05_LinesAll.Pure := by
  intro b _ _ h3
  refine Ev.rounds (g := fun k => letterboxlaw05_LinesAll.f k b) ?_
  show Ev (fun k => (letterboxlaw05_awake.f).bind _) _
  refine bs ?_
  refine yes rfl ?_
  by_cases h : (b.length : Int) > 500
  · exact yes h (fin rfl)
  · refine no h ?_
    rw [of_eq b 0 (b.length : Int) (by omega), if_pos ⟨by omega, by omega, by omega⟩, Int.toNat_natCast]
    have hl := ln_from_len b b.length b.length 0 (by omega)
    exact bs (all_l0 b (by omega) _ (by rw [show (0 : Int).toNat = 0 from rfl]; omega) b.length 0 0 (by omega) (by omega) rfl)
end Go.Proofs.Ytfpdamppppbkiaa.Pure
