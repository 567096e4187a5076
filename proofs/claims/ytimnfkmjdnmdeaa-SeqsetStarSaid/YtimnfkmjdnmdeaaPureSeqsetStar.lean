/- The law SeqsetStar holds: a star is the last number, wherever it stands; a range is the same from either end. -/
import Derived.Test.YtimnfkmjdnmdeaaRise
import Derived.Test.YtimnfkmjdnmdeaaPx7
set_option linter.unusedVariables false
namespace Go.Proofs.Ytimnfkmjdnmdeaa.Pure
open Go.RowKit Go.Proofs.Ytimnfkmjdnmdeaa.P Go.Proofs.YtimnfkmjdnmdeaaW.PrintWords Go.Proofs.YtimnfkmjdnmdeaaW.PrintLast Go.Proofs.Ytimnfkmjdnmdeaa.Aids Go.Proofs.Ytimnfkmjdnmdeaa.Chars
theorem hit_swap (a b n : Int) : hit a b n ↔ hit b a n := by unfold hit; omega
theorem ofP_congr (l k : List (Int × Int)) (xs : List Int) (h : ∀ n, hasP l n (rd xs ((xs.length : Int) - 1)) = hasP k n (rd xs ((xs.length : Int) - 1))) : ofP l xs = ofP k xs := by
  unfold ofP
  congr 1
  funext n
  exact h n
theorem has_one (x : Int × Int) (n last : Int) : hasP [x] n last = decide (hit (sq_e x.1 last) (sq_e x.2 last) n) := by
  unfold hasP inP; simp
section
variable (X : Int) (hX : 1 ≤ X ∧ X ≤ 400) (gs : List Int) (hb : byte gs) (hl : gs.length ≤ 40)
include hX hb hl
theorem star_end (x0 : Int) (e0 : wrap64 (Int.tmod (wrap64 x0) 400 + 1) = X) :
    Ev (fun k => letterboxlaw21_SeqsetStar.l0 k x0 gs (run 7 gs 0) (last_ 7 gs 0) (gs.length : Int)) true := by
  have hn := run_len 7 (Nat.le_refl _) gs 0
  have hg := last_ge 7 (Nat.le_refl _) gs 0 hb
  have hr := run_last 7 (Nat.le_refl _) gs 0 hb
  have hn' : (run 7 gs 0).length = gs.length := hn
  have hr' : gs ≠ [] → ∃ A, run 7 gs 0 = A ++ [last_ 7 gs 0] ∧ ∀ x ∈ A, x < last_ 7 gs 0 := hr
  have hg' : 0 + (gs.length : Int) ≤ last_ 7 gs 0 ∧ last_ 7 gs 0 ≤ 0 + 8 * (gs.length : Int) := hg
  clear hn hr hg
  refine st (fun k => by rw [letterboxlaw21_SeqsetStar.l0]) ?_
  rw [e0]
  have eX : sq_e X (rd (run 7 gs 0) (((run 7 gs 0).length : Int) - 1)) = X := if_neg (by omega)
  have o1 := of_ok [(X, 0)] (run 7 gs 0) (by simp) (by omega)
  have o2 := of_ok [(0, X)] (run 7 gs 0) (by simp) (by omega)
  have o3 := of_ok [(X, last_ 7 gs 0)] (run 7 gs 0) (by simp) (by omega)
  have o4 := of_ok [(0, 0)] (run 7 gs 0) (by simp) (by omega)
  have p1 : ofP [(X, 0)] (run 7 gs 0) = ofP [(0, X)] (run 7 gs 0) := ofP_congr _ _ _ (fun n => by
    rw [has_one, has_one, decide_eq_decide]; exact hit_swap _ _ _)
  simp only [List.map_cons, List.map_nil, s32] at o1 o2 o3 o4
  rw [o1, o2, o3, o4]
  have ln := fun l => of_len l (run 7 gs 0)
  refine no (by omega) (bs (bs (bs (bs (bnd (same_ok _ _ p1 (by have := ln [(X, 0)]; omega)) (yes rfl ?_))))))
  by_cases h0 : gs = []
  · subst h0
    refine no (by simp [run]) (st (fun k => by rw [letterboxlaw21_SeqsetStar.j1]) (no (by decide) (yes (by simp [run]) (fin ?_))))
    show (wrap64 (((List.filter _ ([] : List Int)).length : Int) + ((List.filter _ ([] : List Int)).length : Int)) == 0) = true
    simp only [List.filter_nil, List.length_nil]
    rw [w64 (by omega) (by omega)]
    rfl
  · obtain ⟨A, eA, hA⟩ := hr' h0
    have hp : 0 < gs.length := List.length_pos_iff.2 h0
    have hlast : rd (run 7 gs 0) (((run 7 gs 0).length : Int) - 1) = last_ 7 gs 0 := by rw [eA]; exact rd_end A _
    have hmem := run_mem 7 (Nat.le_refl _) gs 0 hb
    have hmem' : ∀ x ∈ run 7 gs 0, 0 < x ∧ x ≤ last_ 7 gs 0 := hmem
    clear hmem
    have hnod : ∀ x ∈ A, x ≠ last_ 7 gs 0 := fun x hx => by have := hA x hx; omega
    clear hA hr'
    generalize hL : last_ 7 gs 0 = L at *
    have p3 : ofP [(X, 0)] (run 7 gs 0) = ofP [(X, L)] (run 7 gs 0) := ofP_congr _ _ _ (fun n => by
      rw [has_one, has_one, hlast]
      show decide (hit (sq_e X L) (sq_e 0 L) n) = decide (hit (sq_e X L) (sq_e L L) n)
      rw [show sq_e 0 L = L from if_pos (by omega), show sq_e L L = L from if_neg (by omega)])
    have p4 : ofP [(0, 0)] (run 7 gs 0) = [L] := by
      unfold ofP
      simp only [has_one, hlast]
      rw [show sq_e 0 L = L from if_pos (by omega), eA, List.filter_append]
      rw [List.filter_eq_nil_iff.2 (fun x hx => by have := hnod x hx; simp [hit]; omega)]
      simp [hit]
    obtain ⟨B, p5⟩ : ∃ B, ofP [(X, 0)] (run 7 gs 0) = B ++ [L] := by
      unfold ofP
      simp only [has_one, hlast]
      rw [show sq_e 0 L = L from if_pos (by omega), show sq_e X L = X from if_neg (by omega), eA, List.filter_append]
      refine ⟨_, congrArg _ ?_⟩
      have : hit X L L := by unfold hit; omega
      simp [this]
    refine yes (by omega) (bnd (same_ok _ _ p3 (by have := ln [(X, 0)]; omega)) (st (fun k => by rw [letterboxlaw21_SeqsetStar.j1]) ?_))
    have l5 := ln [(X, 0)]
    rw [p4, p5] at *
    have e5 : wrap64 (((B ++ [L]).length : Int) - 1) = ((B ++ [L]).length : Int) - 1 := w64 (by omega) (by simp at *; omega)
    rw [e5, rd_end]
    refine no (by decide) (no (by omega) (yes rfl (yes (by simp) (yes rfl (yes (by simp; try omega) (yes (by simp; try omega) (yes (by omega) (fin (by simp)))))))))
theorem star_l0 (x0 : Int) (e0 : wrap64 (Int.tmod (wrap64 x0) 400 + 1) = X) (d : Nat) : ∀ (acc : List Int) (a : Int) (i : Nat), gs.length - i ≤ d → i ≤ gs.length → acc.length = i → 0 ≤ a → a ≤ 8 * (i : Int) →
    acc ++ run 7 (gs.drop i) a = run 7 gs 0 → last_ 7 (gs.drop i) a = last_ 7 gs 0 → Ev (fun k => letterboxlaw21_SeqsetStar.l0 k x0 gs acc a (i : Int)) true := by
  have stop : ∀ (acc : List Int) (a : Int), acc ++ run 7 (gs.drop gs.length) a = run 7 gs 0 → last_ 7 (gs.drop gs.length) a = last_ 7 gs 0 → Ev (fun k => letterboxlaw21_SeqsetStar.l0 k x0 gs acc a (gs.length : Int)) true := by
    intro acc a h1 h2
    rw [List.drop_eq_nil_of_le (Nat.le_refl _)] at h1 h2
    have h1 : acc = run 7 gs 0 := by simpa [run] using h1
    have h2 : a = last_ 7 gs 0 := h2
    subst h1 h2
    exact star_end X hX gs hb hl x0 e0
  induction d with
  | zero =>
    intro acc a i hd hi _ _ _ h1 h2
    have e : i = gs.length := by omega
    subst e; exact stop acc a h1 h2
  | succ d ih =>
    intro acc a i hd hi ha h0 h8 h1 h2
    rcases Nat.lt_or_ge i gs.length with hlt | hge
    · have e1 : wrap64 ((i : Int) + 1) = ((i + 1 : Nat) : Int) := by rw [w64 (by omega) (by omega)]; omega
      have g := gap_pos 7 (Nat.le_refl _) _ (hb _ (rd_mem gs i hlt))
      have g' : 1 ≤ gap 7 (rd gs (i : Int)) ∧ gap 7 (rd gs (i : Int)) ≤ 8 := g
      refine st (fun k => by rw [letterboxlaw21_SeqsetStar.l0]) ?_
      rw [e1]
      have e2 : wrap64 (a + wrap64 (wrap64 (Go.bits .and .u8 (rd gs (i : Int)) 7) + 1)) = a + gap 7 (rd gs (i : Int)) := by
        show wrap64 (a + gap 7 (rd gs (i : Int))) = _
        clear g h1 h2 e1 ih
        generalize gap 7 (rd gs (i : Int)) = q at g' ⊢
        exact w64 (by omega) (by omega)
      rw [e2]
      rw [drop_rd gs i hlt, run] at h1
      rw [drop_rd gs i hlt, Chars.last_] at h2
      clear e1 e2 g
      generalize gap 7 (rd gs (i : Int)) = q at *
      have c : (acc.length : Int) < 17592186044416 ∧ 0 ≤ a + q ∧ a + q ≤ 8 * ((i + 1 : Nat) : Int) ∧ gs.length - (i + 1) ≤ d ∧ (i : Int) < (gs.length : Int) := by
        clear h1 h2 ih stop; omega
      refine yes c.2.2.2.2 (yes (Int.natCast_nonneg i) (yes (by have := c.1; clear h1 h2 ih stop; omega) (ih _ _ (i + 1) c.2.2.2.1 hlt (by rw [List.length_append, ha]; rfl) c.2.1 c.2.2.1 ?_ h2)))
      rw [List.append_assoc]; exact h1
    · have e : i = gs.length := by omega
      subst e; exact stop acc a h1 h2
end
theorem SeqsetStar : letterboxlaw21_SeqsetStar.Pure := by
  intro a0 l1 h0 h1 h2 h3
  have hw := wf_u16 h0
  have hb := byte_wf h3
  refine Ev.rounds (g := fun k => letterboxlaw21_SeqsetStar.f k a0 l1) ?_
  show Ev (fun k => (letterboxlaw21_awake.f k).bind _) _
  refine bnd awake (yes rfl ?_)
  by_cases hs : (l1.length : Int) > 40
  · exact yes hs (fin rfl)
  · have e0 : wrap64 (Int.tmod (wrap64 a0) 400 + 1) = a0 % 400 + 1 := by
      rw [w64 (x := a0) (by omega) (by omega), tmod_pos hw.1, w64 (by omega) (by omega)]
    have hX : 1 ≤ a0 % 400 + 1 ∧ a0 % 400 + 1 ≤ 400 := by omega
    generalize a0 % 400 + 1 = X at e0 hX
    have h := star_l0 X hX l1 hb (by omega) a0 e0 l1.length [] 0 0 (by omega) (Nat.zero_le _) rfl (Int.le_refl _) (by omega) (by simp) (by simp)
    exact no hs h
end Go.Proofs.Ytimnfkmjdnmdeaa.Pure
