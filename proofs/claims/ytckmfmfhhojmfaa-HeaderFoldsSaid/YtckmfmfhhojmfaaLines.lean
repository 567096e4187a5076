/- Lines as a plain function: where each begins and ends; no Go and no program in sight. -/
import Derived.Test.YtckmfmfhhojmfaaEvs
import Derived.Test.YtckmfmfhhojmfaaPx1
set_option linter.unusedVariables false
set_option linter.unusedSimpArgs false
set_option linter.unusedSectionVars false
namespace Go.Proofs.Ytckmfmfhhojmfaa.Lin
open Go.RowKit Go.Proofs.Ytckmfmfhhojmfaa.P Go.Proofs.YtckmfmfhhojmfaaW.PrintWords Go.Proofs.YtckmfmfhhojmfaaW.PrintLast Go.Proofs.YtckmfmfhhojmfaaW.PrintMore Go.Proofs.Ytckmfmfhhojmfaa.Aids

theorem ixn_spec (v : Int) : ∀ l : List Int, (∀ j : Nat, j < ixn l v → rd l (j : Int) ≠ v) ∧ (ixn l v < l.length → rd l (ixn l v : Int) = v)
  | [] => ⟨fun j h => by simp [ixn] at h, fun h => by simp [ixn] at h⟩
  | x :: t => by
    obtain ⟨h1, h2⟩ := ixn_spec v t
    by_cases hx : x = v
    · have e : ixn (x :: t) v = 0 := if_pos hx
      rw [e]
      exact ⟨fun j h => by omega, fun _ => hx⟩
    · have e : ixn (x :: t) v = ixn t v + 1 := if_neg hx
      rw [e]
      refine ⟨fun j h => ?_, fun h => h2 (by simp at h; exact h)⟩
      cases j with
      | zero => exact hx
      | succ j => exact h1 j (by omega)
theorem rd_sub (b : List Int) (en at_ j : Nat) (h : at_ + j < en) (he : en ≤ b.length) : rd ((b.take en).drop at_) (j : Int) = rd b ((at_ + j : Nat) : Int) := by
  rw [rd_at _ _ (by rw [List.length_drop, List.length_take]; omega), rd_at _ _ (by omega)]
  simp
/-- one line -/
theorem nx_spec (b : List Int) (en at_ : Nat) (h : at_ < en) (he : en ≤ b.length) :
    (∃ m : Nat, at_ + m < en ∧ rd b ((at_ + m : Nat) : Int) = 10 ∧ (∀ j : Nat, at_ ≤ j → j < at_ + m → rd b (j : Int) ≠ 10) ∧ (ln_nx b en at_).f0 = (at_ : Int) ∧ (ln_nx b en at_).f2 = ((at_ + m + 1 : Nat) : Int) ∧
      (ln_nx b en at_).f1 = (if 0 < m ∧ rd b ((at_ + m - 1 : Nat) : Int) = 13 then ((at_ + m - 1 : Nat) : Int) else ((at_ + m : Nat) : Int))) ∨
    ((∀ j : Nat, at_ ≤ j → j < en → rd b (j : Int) ≠ 10) ∧ ln_nx b en at_ = ⟨(at_ : Int), (en : Int), (en : Int)⟩) := by
  obtain ⟨sub, hs⟩ : ∃ sub, sub = (b.take en).drop at_ := ⟨_, rfl⟩
  have hsl : sub.length = en - at_ := by rw [hs, List.length_drop, List.length_take]; omega
  obtain ⟨h1, h2⟩ := ixn_spec 10 sub
  have hle := ixn_le sub 10
  obtain ⟨m, hm⟩ : ∃ m, m = ixn sub 10 := ⟨_, rfl⟩
  rw [← hm] at h1 h2 hle
  have hj : ∀ j : Nat, at_ ≤ j → j < at_ + m → rd b (j : Int) ≠ 10 := by
    intro j ha hj
    have := h1 (j - at_) (by omega)
    rw [hs, rd_sub b en at_ _ (by omega) he, show at_ + (j - at_) = j by omega] at this
    exact this
  by_cases hf : m < en - at_
  · left
    have h3 := h2 (by omega)
    rw [hs, rd_sub b en at_ _ (by omega) he] at h3
    rw [ln_nx_yes hs hm hf _ rfl]
    exact ⟨m, by omega, h3, hj, rfl, by dsimp only; omega, rfl⟩
  · right
    exact ⟨fun j ha hjn => hj j ha (by omega), ln_nx_no hs hm hf⟩
theorem drop_T {l t : List S40} {x : S40} {i : Nat} (h : l.drop i = x :: t) : i < l.length ∧ rd_T40 l (i : Int) = x ∧ l.drop (i + 1) = t := by
  have hl : i < l.length := by
    rcases Nat.lt_or_ge i l.length with h1 | h1
    · exact h1
    · rw [List.drop_eq_nil_of_le h1] at h; cases h
  rw [List.drop_eq_getElem_cons hl] at h
  injection h with h1 h2
  refine ⟨hl, ?_, h2⟩
  unfold rd_T40
  rw [Int.toNat_natCast, List.getD_eq_getElem?_getD, List.getElem?_eq_getElem hl]
  exact h1
theorem drop_T_nil {l : List S40} {i : Nat} (h : l.drop i = []) : l.length ≤ i := List.drop_eq_nil_iff.1 h
theorem of_eq (b : List Int) (x y : Int) (hl : b.length ≤ 100000) : lines_Of.f b x y = some (if 0 ≤ x ∧ x ≤ y ∧ y ≤ (b.length : Int) then ln_from b y.toNat x.toNat else []) := if_pos hl
end Go.Proofs.Ytckmfmfhhojmfaa.Lin
