/- Steps over a text's pieces: a word, a sign, a blank; an address. -/
import Derived.Test.YtcjepgofcojeoaaAd3
set_option linter.unusedVariables false
set_option linter.unusedSimpArgs false
namespace Go.Proofs.Ytcjepgofcojeoaa.Ad
open Go.RowKit Go.Proofs.Ytcjepgofcojeoaa.P Go.Proofs.YtcjepgofcojeoaaW.PrintWords Go.Proofs.YtcjepgofcojeoaaW.PrintLast Go.Proofs.Ytcjepgofcojeoaa.Aids
theorem pcL_same {l m : List Int} (h : skipL l = skipL m) : pcL l = pcL m := by
  rw [← pcL_at l (max l.length m.length) (by have := skipL_len l; omega), ← pcL_at m (max l.length m.length) (by have := skipL_len m; omega), h]
theorem pcL_blank (Z : List Int) : pcL (32 :: Z) = pcL Z := pcL_same (by rw [skipL_cons, if_pos (.inl rfl)])
theorem pcL_sign {z : Int} (h : sgn z = true) (Z : List Int) : pcL (z :: Z) = (pcL Z).map (Pc.s z :: ·) := by
  have hz : z ≠ 32 ∧ z ≠ 9 ∧ z ≠ 40 := by
    refine ⟨?_, ?_, ?_⟩ <;> (intro e; rw [e] at h; exact absurd h (by decide))
  rw [pcL_cons (l := z :: Z) (t := Z) (c := z) (by rw [skipL_cons, if_neg (fun e => e.elim hz.1 hz.2.1), if_neg hz.2.2]), if_pos h]
def wch (c : Int) : Bool := !stopc c && decide (c ≠ 91)
theorem pln_all : ∀ (n : Nat) (w : List Int), w.length ≤ n → (∀ c ∈ w, wch c = true) → pln n w = some (w, [])
  | 0, [], _, _ => rfl
  | n + 1, [], _, _ => rfl
  | 0, _ :: _, h, _ => by simp at h
  | n + 1, c :: t, h, hw => by
    have hc := hw c List.mem_cons_self
    unfold wch at hc
    simp only [Bool.and_eq_true, Bool.not_eq_true', decide_eq_true_eq] at hc
    rw [pln, if_neg (by rw [hc.1]; decide), if_neg hc.2, pln_all n t (by simpa using h) (fun x hx => hw x (List.mem_cons_of_mem _ hx))]
    rfl
theorem pcL_word {w : List Int} (hne : w ≠ []) (hw : ∀ c ∈ w, wch c = true) {z : Int} (hz : stopc z = true) (Z : List Int) : pcL (w ++ z :: Z) = (pcL (z :: Z)).map (Pc.w (strOfNums w) :: ·) := by
  cases w with
  | nil => exact absurd rfl hne
  | cons c t =>
    have hc := hw c List.mem_cons_self
    unfold wch at hc
    simp only [Bool.and_eq_true, Bool.not_eq_true', decide_eq_true_eq] at hc
    have h1 : c ≠ 32 ∧ c ≠ 9 ∧ c ≠ 40 ∧ c ≠ 34 ∧ sgn c = false := by
      refine ⟨?_, ?_, ?_, ?_, ?_⟩
      · intro e; rw [e] at hc; exact absurd hc.1 (by decide)
      · intro e; rw [e] at hc; exact absurd hc.1 (by decide)
      · intro e; rw [e] at hc; exact absurd hc.1 (by decide)
      · intro e; rw [e] at hc; exact absurd hc.1 (by decide)
      · cases hs : sgn c with
        | false => rfl
        | true =>
          exfalso
          unfold sgn at hs
          simp only [List.contains_cons, List.contains_nil, Bool.or_eq_true, beq_iff_eq, Bool.or_false] at hs
          rcases hs with e | e | e | e | e | e <;> (rw [e] at hc; exact absurd hc.1 (by decide))
    have hno : noOpen (c :: t) := by
      intro x hx
      have h2 := hw x hx
      unfold wch at h2
      simp only [Bool.and_eq_true, Bool.not_eq_true', decide_eq_true_eq] at h2
      refine ⟨?_, ?_, h2.2⟩
      · intro e; rw [e] at h2; exact absurd h2.1 (by decide)
      · intro e; rw [e] at h2; exact absurd h2.1 (by decide)
    obtain ⟨w', r', e1, e2⟩ := pln_ext (z :: Z) ⟨z, Z, rfl, hz⟩ (c :: t).length ((c :: t) ++ z :: Z).length (c :: t) (Nat.le_refl _) (Nat.le_refl _) hno
    rw [pln_all _ (c :: t) (Nat.le_refl _) hw] at e1
    obtain ⟨rfl, rfl⟩ := Prod.mk.inj (Option.some.inj e1)
    have e3 : plnL (c :: (t ++ z :: Z)) = some (c :: t, z :: Z) := e2
    rw [List.cons_append, pcL_cons (l := c :: (t ++ z :: Z)) (t := t ++ z :: Z) (c := c) (by rw [skipL_cons, if_neg (fun e => e.elim h1.1 h1.2.1), if_neg h1.2.2.1]), if_neg (by rw [h1.2.2.2.2]; decide), if_neg h1.2.2.2.1, e3, Option.bind_some, if_neg (by simp)]
theorem pcL_quote {s u r : List Int} (h : qtd s = some (u, r)) : pcL (34 :: s) = (pcL r).map (Pc.w (strOfNums u) :: ·) := by
  rw [pcL_cons (l := 34 :: s) (t := s) (c := 34) (by rw [skipL_cons, if_neg (by decide), if_neg (by decide)]), if_neg (by decide), if_pos rfl, h]
  rfl
theorem qtd_none : ∀ (n : Nat) (t : List Int), t.length ≤ n → (∀ c ∈ t, c ≠ 34) → qtd t = none
  | _, [], _, _ => rfl
  | 0, _ :: _, h, _ => by simp at h
  | n + 1, c :: t, h, ht => by
    have hl : t.length ≤ n := by simpa using h
    have h' : ∀ x ∈ t, x ≠ 34 := fun x hx => ht x (List.mem_cons_of_mem _ hx)
    rw [qtd_cons, if_neg (ht c List.mem_cons_self)]
    split
    · cases t with
      | nil => rfl
      | cons x u =>
        simp only
        rw [qtd_none n u (by simp at hl; omega) (fun y hy => h' y (List.mem_cons_of_mem _ hy))]
        rfl
    · rw [qtd_none n t hl h']; rfl
theorem pcL_noquote {s : List Int} (h : ∀ c ∈ s, c ≠ 34) : pcL (34 :: s) = none := by
  rw [pcL_cons (l := 34 :: s) (t := s) (c := 34) (by rw [skipL_cons, if_neg (by decide), if_neg (by decide)]), if_neg (by decide), if_pos rfl, qtd_none s.length s (Nat.le_refl _) h]
  rfl
theorem cut93_none : ∀ t : List Int, (∀ c ∈ t, c ≠ 93) → cut93 t = none
  | [], _ => rfl
  | c :: t, h => by
    unfold cut93
    rw [if_neg (h c List.mem_cons_self), cut93_none t (fun x hx => h x (List.mem_cons_of_mem _ hx))]
    rfl
theorem pcL_nobracket {s : List Int} (h : ∀ c ∈ s, c ≠ 93) : pcL (91 :: s) = none := by
  have hp : plnL (91 :: s) = none := by
    show pln (s.length + 1) (91 :: s) = none
    rw [pln, if_neg (by decide), if_pos rfl, cut93_none (91 :: s) (fun c hc => by
      rcases List.mem_cons.1 hc with e | e
      · rw [e]; decide
      · exact h c e)]
    rfl
  rw [pcL_cons (l := 91 :: s) (t := s) (c := 91) (by rw [skipL_cons, if_neg (by decide), if_neg (by decide)]), if_neg (by decide), if_neg (by decide), hp]
  rfl
theorem items0_step {L R : List Pc} {o : List S27} (h : item0 L = (true, Pc.s 44 :: R, o)) : items0 L = ((items0 R).1, (items0 R).2.1, o ++ (items0 R).2.2) := by
  have hl := len0 L
  rw [h] at hl
  simp only [List.length_cons] at hl
  show itemsL item0 (L.length + 1) L = _
  rw [itemsL]
  simp only
  rw [h]
  simp only
  rw [if_neg (by decide), isP_s, if_pos rfl]
  simp only
  rw [if_neg (by decide), itemsL_fuel len0 L.length (R.length + 1) R (by omega) (by omega)]
  rfl
theorem items0_fail {L : List Pc} (h : (item0 L).1 = false) : (items0 L).1 = false := by
  show (itemsL item0 (L.length + 1) L).1 = false
  rw [itemsL]
  simp only
  rw [if_pos h]; exact h
theorem items0_stop {L : List Pc} (h1 : (item0 L).1 = true) (h2 : (isP (item0 L).2.1 44).1 = false) : items0 L = (true, (isP (item0 L).2.1 44).2, (item0 L).2.2) := by
  show itemsL item0 (L.length + 1) L = _
  rw [itemsL]
  simp only
  rw [if_neg (by rw [h1]; decide), if_pos h2]
end Go.Proofs.Ytcjepgofcojeoaa.Ad
