/- What more pieces behind a comma turn: nothing. -/
import Derived.Test.YtcjepgofcojeoaaAd2
set_option linter.unusedVariables false
set_option linter.unusedSimpArgs false
namespace Go.Proofs.Ytcjepgofcojeoaa.Ad
open Go.RowKit Go.Proofs.Ytcjepgofcojeoaa.P Go.Proofs.YtcjepgofcojeoaaW.PrintWords Go.Proofs.YtcjepgofcojeoaaW.PrintLast Go.Proofs.Ytcjepgofcojeoaa.Aids
section
variable (Y : List Pc)
theorem isP_s (x : Int) (t : List Pc) (c : Int) : isP (Pc.s x :: t) c = if x = c then (true, t) else (false, Pc.s x :: t) := rfl
def cm (Y : List Pc) : List Pc := Pc.s 44 :: Y
theorem isP_ext (l : List Pc) (c : Int) (hc : c ≠ 44 ∨ l ≠ []) : isP (l ++ cm Y) c = ((isP l c).1, (isP l c).2 ++ cm Y) := by
  cases l with
  | nil =>
    have h : c ≠ 44 := hc.elim id (fun h => absurd rfl h)
    show isP (Pc.s 44 :: Y) c = _
    rw [isP_s, if_neg (fun e => h e.symm)]
    rfl
  | cons p t =>
    cases p with
    | w b => rfl
    | s x =>
      show isP (Pc.s x :: (t ++ cm Y)) c = _
      rw [isP_s, isP_s]
      by_cases h : x = c
      · rw [if_pos h, if_pos h]
      · rw [if_neg h, if_neg h]; rfl
theorem wordsP_ext : ∀ l : List Pc, wordsP (l ++ cm Y) = ((wordsP l).1, (wordsP l).2 ++ cm Y)
  | [] => rfl
  | .s x :: t => rfl
  | .w b :: t => by
    show wordsP (Pc.w b :: (t ++ cm Y)) = _
    rw [wordsP, wordsP_ext t]
    rfl
theorem hostP_ext (l : List Pc) : hostP (l ++ cm Y) = ((hostP l).1, (hostP l).2.1, (hostP l).2.2 ++ cm Y) := by
  unfold hostP
  rw [isP_ext Y l 64 (.inl (by decide))]
  cases hi : isP l 64 with
  | mk b l1 =>
    cases b with
    | false => rfl
    | true =>
      cases l1 with
      | nil => rfl
      | cons p t => cases p <;> rfl
theorem atP_ext (l : List Pc) : atP (l ++ cm Y) = atP l := by
  cases l with
  | nil => rfl
  | cons p t => cases p <;> rfl
theorem wayL_ext : ∀ (d d' : Nat) (sm : Bool) (l : List Pc), l.length < d → (l ++ cm Y).length < d' → (wayL d sm l).1 = true → wayL d' sm (l ++ cm Y) = (true, (wayL d sm l).2 ++ cm Y)
  | 0, _, _, _, h, _, _ => by omega
  | _ + 1, 0, _, _, _, h, _ => by omega
  | d + 1, d' + 1, sm, l, h1, h2, h3 => by
    rw [wayL] at h3
    rw [wayL, wayL, atP_ext, hostP_ext]
    by_cases ha : atP l = true
    · rw [if_pos ha] at h3
      rw [if_pos ha, if_pos ha]
      simp only
      have hl := hostP_at l ha
      by_cases hh : (hostP l).2.1 = true
      · rw [if_pos hh] at h3
        rw [if_pos hh, if_pos hh]
        by_cases hr : (hostP l).2.2 = []
        · rw [hr] at h3
          have : (wayL d true (isP [] 44).2).1 = false := by
            cases d with
            | zero => rfl
            | succ d => rfl
          rw [this] at h3; cases h3
        · have hp := isP_len (hostP l).2.2 44
          rw [isP_ext Y _ 44 (.inr hr)]
          have hcl : (cm Y).length = Y.length + 1 := rfl
          rw [List.length_append] at h2
          exact wayL_ext d d' true _ (by omega) (by rw [List.length_append]; omega) h3
      · rw [if_neg hh] at h3; cases h3
    · rw [if_neg ha] at h3
      rw [if_neg ha, if_neg ha]
      cases sm with
      | true =>
        rw [if_pos rfl] at h3
        rw [if_pos rfl, if_pos rfl, isP_ext Y _ 58 (.inl (by decide)), h3]
      | false =>
        rw [if_neg (by decide), if_neg (by decide)]
theorem wayP_ext (l : List Pc) (h : (wayP l).1 = true) : wayP (l ++ cm Y) = (true, (wayP l).2 ++ cm Y) := wayL_ext Y _ _ false l (by omega) (by omega) h
def Ext (f : RdF) : Prop := ∀ l, (f l).1 = true → f (l ++ cm Y) = (true, (f l).2.1 ++ cm Y, (f l).2.2)
def Ext1 (f : RdF) : Prop := ∀ l, pOk l → (f l).1 = true → (f l).2.1 ≠ [] → f (l ++ cm Y) = (true, (f l).2.1 ++ cm Y, (f l).2.2)
theorem angle_ext (name : List ByteArray) : Ext Y (angleP name) := by
  intro l h
  unfold angleP at h ⊢
  by_cases h1 : (wayP l).1 = false
  · rw [if_pos h1] at h; cases h
  · rw [if_neg h1] at h
    have h1' : (wayP l).1 = true := by revert h1; cases (wayP l).1 <;> simp
    rw [wayP_ext Y l h1', if_neg (show ¬ (true, (wayP l).2 ++ cm Y).1 = false from fun e => by cases e), if_neg h1]
    simp only at h ⊢
    rw [wordsP_ext, hostP_ext]
    simp only
    by_cases h2 : (hostP (wordsP (wayP l).2).2).2.1 = false ∨ (wordsP (wayP l).2).1 = []
    · rw [if_pos h2] at h; cases h
    · rw [if_neg h2] at h
      rw [if_neg h2, if_neg h2, isP_ext Y _ 62 (.inl (by decide))]
      simp only
      by_cases h3 : (isP (hostP (wordsP (wayP l).2).2).2.2 62).1 = false
      · rw [if_pos h3] at h; cases h
      · rw [if_neg h3, if_neg h3]
theorem item_ext {f : RdF} (hf : ∀ l, (f l).1 = true → (f l).2.1 ≠ [] → f (l ++ cm Y) = (true, (f l).2.1 ++ cm Y, (f l).2.2)) (b : Bool) : Ext Y (itemP f b) := by
  intro l h
  unfold itemP at h ⊢
  simp only at h ⊢
  rw [wordsP_ext]
  simp only
  rw [isP_ext Y _ 60 (.inl (by decide))]
  simp only
  by_cases h1 : (isP (wordsP l).2 60).1 = true
  · rw [if_pos h1] at h
    rw [if_pos h1, if_pos h1]
    exact angle_ext Y _ _ h
  · rw [if_neg h1] at h
    rw [if_neg h1, if_neg h1]
    have hc : (if b = true then (false, (isP (wordsP l).2 60).2 ++ cm Y) else isP ((isP (wordsP l).2 60).2 ++ cm Y) 58) = ((if b = true then (false, (isP (wordsP l).2 60).2) else isP (isP (wordsP l).2 60).2 58).1, (if b = true then (false, (isP (wordsP l).2 60).2) else isP (isP (wordsP l).2 60).2 58).2 ++ cm Y) := by
      cases b with
      | true => rfl
      | false => exact isP_ext Y _ 58 (.inl (by decide))
    rw [hc]
    generalize (if b = true then (false, (isP (wordsP l).2 60).2) else isP (isP (wordsP l).2 60).2 58) = c at h ⊢
    simp only
    by_cases h2 : c.1 = true
    · rw [if_pos h2] at h
      rw [if_pos h2, if_pos h2]
      by_cases h3 : (f c.2).1 = false
      · rw [if_pos h3] at h; cases h
      · rw [if_neg h3] at h
        have h3' : (f c.2).1 = true := by revert h3; cases (f c.2).1 <;> simp
        by_cases h4 : (isP (f c.2).2.1 59).1 = false
        · rw [if_pos h4] at h; cases h
        · have hne : (f c.2).2.1 ≠ [] := by intro e; rw [e] at h4; exact h4 rfl
          rw [hf c.2 h3' hne]
          simp only
          rw [if_neg (by decide), if_neg h3, isP_ext Y _ 59 (.inl (by decide))]
          simp only
          rw [if_neg h4, if_neg h4]
    · rw [if_neg h2] at h
      rw [if_neg h2, if_neg h2]
      by_cases h3 : (wordsP l).1 = []
      · rw [if_pos h3, if_pos h3]
      · rw [if_neg h3] at h
        rw [if_neg h3, if_neg h3, hostP_ext]
        simp only at h ⊢
        rw [h]
theorem itemsL_ext {f : RdF} (hf : Ext Y f) (hlen : ∀ l, (f l).2.1.length ≤ l.length) : ∀ (d d' : Nat) (l : List Pc), l.length < d → (l ++ cm Y).length < d' → (itemsL f d l).1 = true → (itemsL f d l).2.1 ≠ [] → itemsL f d' (l ++ cm Y) = (true, (itemsL f d l).2.1 ++ cm Y, (itemsL f d l).2.2)
  | 0, _, _, h, _, _, _ => by omega
  | _ + 1, 0, _, _, h, _, _ => by omega
  | d + 1, d' + 1, l, h1, h2, h3, h4 => by
    rw [itemsL] at h3 h4
    rw [itemsL, itemsL]
    simp only at h3 h4 ⊢
    have hl := hlen l
    by_cases e1 : (f l).1 = false
    · rw [if_pos e1] at h3; rw [h3] at e1; cases e1
    · have e1' : (f l).1 = true := by revert e1; cases (f l).1 <;> simp
      rw [if_neg e1] at h3 h4
      rw [hf l e1', if_neg e1]
      simp only
      rw [if_neg (by decide)]
      by_cases e2 : (isP (f l).2.1 44).1 = false
      · rw [if_pos e2] at h4
        rw [if_pos e2]
        have hne : (f l).2.1 ≠ [] := by intro e; rw [e] at h4; exact h4 rfl
        rw [isP_ext Y _ 44 (.inr hne)]
        simp only
        rw [if_pos e2]
      · have hne : (f l).2.1 ≠ [] := by intro e; rw [e] at e2; exact e2 rfl
        rw [if_neg e2] at h3 h4
        rw [if_neg e2, isP_ext Y _ 44 (.inr hne)]
        simp only
        rw [if_neg e2]
        obtain ⟨l6, e6⟩ : ∃ l6, isP (f l).2.1 44 = (true, l6) := ⟨_, Prod.ext (by revert e2; cases (isP (f l).2.1 44).1 <;> simp) rfl⟩
        have h6 := isP_true e6
        rw [e6] at h3 h4 ⊢
        simp only at h3 h4 ⊢
        have hcl : (cm Y).length = Y.length + 1 := rfl
        rw [List.length_append] at h2
        rw [itemsL_ext hf hlen d d' l6 (by omega) (by rw [List.length_append]; omega) h3 h4]
end
theorem itemsL_fuel {f : RdF} (hlen : ∀ l, (f l).2.1.length ≤ l.length) : ∀ (d d' : Nat) (l : List Pc), l.length < d → l.length < d' → itemsL f d l = itemsL f d' l
  | 0, _, _, h, _ => by omega
  | _ + 1, 0, _, _, h => by omega
  | d + 1, d' + 1, l, h1, h2 => by
    rw [itemsL, itemsL]
    simp only
    have hl := hlen l
    by_cases e1 : (f l).1 = false
    · rw [if_pos e1, if_pos e1]
    · rw [if_neg e1, if_neg e1]
      by_cases e2 : (isP (f l).2.1 44).1 = false
      · rw [if_pos e2, if_pos e2]
      · rw [if_neg e2, if_neg e2]
        obtain ⟨l6, e6⟩ : ∃ l6, isP (f l).2.1 44 = (true, l6) := ⟨_, Prod.ext (by revert e2; cases (isP (f l).2.1 44).1 <;> simp) rfl⟩
        have h6 := isP_true e6
        rw [e6]
        simp only
        rw [itemsL_fuel hlen d d' l6 (by omega) (by omega)]
/-! what is left is no longer, whatever the pieces are -/
theorem wayL_len (d : Nat) : ∀ (sm : Bool) (l : List Pc), (wayL d sm l).2.length ≤ l.length := by
  induction d with
  | zero => intro sm l; exact Nat.le_refl _
  | succ d ih =>
    intro sm l
    rw [wayL]
    have h1 := hostP_len l
    have h3 := isP_len (hostP l).2.2 44
    have h4 := ih true (isP (hostP l).2.2 44).2
    split
    · split
      · omega
      · exact h1
    · split
      · exact isP_len l 58
      · exact Nat.le_refl _
theorem wordsP_len : ∀ l : List Pc, (wordsP l).2.length ≤ l.length
  | [] => Nat.le_refl _
  | .s x :: t => Nat.le_refl _
  | .w b :: t => by have := wordsP_len t; simp only [wordsP, List.length_cons]; omega
theorem angle_len (name : List ByteArray) (l : List Pc) : (angleP name l).2.1.length ≤ l.length := by
  have h1 : (wayP l).2.length ≤ l.length := wayL_len _ _ _
  have h2 := wordsP_len (wayP l).2
  have h3 := hostP_len (wordsP (wayP l).2).2
  have h4 := isP_len (hostP (wordsP (wayP l).2).2).2.2 62
  unfold angleP
  simp only
  split
  · exact h1
  · split
    · simp only; omega
    · split
      · simp only; omega
      · simp only; omega
theorem item_len {f : RdF} (hf : ∀ l, (f l).2.1.length ≤ l.length) (b : Bool) (l : List Pc) : (itemP f b l).2.1.length ≤ l.length := by
  have h1 := wordsP_len l
  have h2 := isP_len (wordsP l).2 60
  unfold itemP
  simp only
  split
  · have := angle_len (wordsP l).1 (isP (wordsP l).2 60).2
    omega
  · have hc : (if b = true then (false, (isP (wordsP l).2 60).2) else isP (isP (wordsP l).2 60).2 58).2.length ≤ (isP (wordsP l).2 60).2.length := by
      cases b with
      | true => exact Nat.le_refl _
      | false => exact isP_len _ 58
    generalize (if b = true then (false, (isP (wordsP l).2 60).2) else isP (isP (wordsP l).2 60).2 58) = c at hc ⊢
    have h3 := hf c.2
    have h4 := isP_len (f c.2).2.1 59
    have h5 := hostP_len c.2
    split
    · split
      · simp only; omega
      · split
        · simp only; omega
        · simp only; omega
    · split
      · simp only; omega
      · simp only; omega
theorem itemsL_len {f : RdF} (hf : ∀ l, (f l).2.1.length ≤ l.length) : ∀ (d : Nat) (l : List Pc), (itemsL f d l).2.1.length ≤ l.length
  | 0, l => Nat.le_refl _
  | d + 1, l => by
    have h1 := hf l
    have h2 := isP_len (f l).2.1 44
    have h3 := itemsL_len hf d (isP (f l).2.1 44).2
    rw [itemsL]
    simp only
    split
    · exact h1
    · split
      · simp only; omega
      · simp only; omega
theorem len1 : ∀ l, (item1 l).2.1.length ≤ l.length := item_len (fun l => Nat.le_refl _) true
theorem lens1 : ∀ l, (items1 l).2.1.length ≤ l.length := fun l => itemsL_len len1 _ l
theorem len0 : ∀ l, (item0 l).2.1.length ≤ l.length := item_len lens1 false
theorem item1_ext (Y : List Pc) : Ext Y item1 := item_ext Y (fun l h => by cases h) true
theorem items1_ext (Y : List Pc) (l : List Pc) (h1 : (items1 l).1 = true) (h2 : (items1 l).2.1 ≠ []) : items1 (l ++ cm Y) = (true, (items1 l).2.1 ++ cm Y, (items1 l).2.2) :=
  itemsL_ext Y (item1_ext Y) len1 _ _ l (by omega) (by omega) h1 h2
theorem item0_ext (Y : List Pc) : Ext Y item0 := item_ext Y (fun l h1 h2 => items1_ext Y l h1 h2) false
theorem items0_join (Y : List Pc) : ∀ (d d' : Nat) (l : List Pc), l.length < d → (l ++ cm Y).length < d' → (itemsL item0 d l).1 = true → (itemsL item0 d l).2.1 = [] → itemsL item0 d' (l ++ cm Y) = ((items0 Y).1, (items0 Y).2.1, (itemsL item0 d l).2.2 ++ (items0 Y).2.2)
  | 0, _, _, h, _, _, _ => by omega
  | _ + 1, 0, _, _, h, _, _ => by omega
  | d + 1, d' + 1, l, h1, h2, h3, h4 => by
    rw [itemsL] at h3 h4
    rw [itemsL, itemsL]
    simp only at h3 h4 ⊢
    have hl := len0 l
    have hcl : (cm Y).length = Y.length + 1 := rfl
    rw [List.length_append] at h2
    by_cases e1 : (item0 l).1 = false
    · rw [if_pos e1] at h3; rw [h3] at e1; cases e1
    · have e1' : (item0 l).1 = true := by revert e1; cases (item0 l).1 <;> simp
      rw [if_neg e1] at h3 h4
      rw [item0_ext Y l e1', if_neg e1]
      simp only
      rw [if_neg (by decide)]
      by_cases e2 : (isP (item0 l).2.1 44).1 = false
      · rw [if_pos e2] at h4
        simp only at h4
        have hn : (item0 l).2.1 = [] := by
          cases hq : (item0 l).2.1 with
          | nil => rfl
          | cons p t =>
            rw [hq] at h4 e2
            cases p with
            | w b => cases h4
            | s x =>
              rw [isP_s] at h4 e2
              by_cases hx : x = 44
              · rw [if_pos hx] at e2; cases e2
              · rw [if_neg hx] at h4; cases h4
        rw [if_pos e2, hn]
        have e3 : isP ([] ++ cm Y) 44 = (true, Y) := by
          show isP (Pc.s 44 :: Y) 44 = _
          rw [isP_s, if_pos rfl]
        rw [e3]
        simp only
        rw [if_neg (by decide)]
        have e4 : itemsL item0 d' Y = items0 Y := itemsL_fuel len0 _ _ Y (by omega) (by omega)
        rw [e4]
      · have hne : (item0 l).2.1 ≠ [] := by intro e; rw [e] at e2; exact e2 rfl
        rw [if_neg e2] at h3 h4
        rw [if_neg e2, isP_ext Y _ 44 (.inr hne)]
        simp only
        rw [if_neg e2]
        obtain ⟨l6, e6⟩ : ∃ l6, isP (item0 l).2.1 44 = (true, l6) := ⟨_, Prod.ext (by revert e2; cases (isP (item0 l).2.1 44).1 <;> simp) rfl⟩
        have h6 := isP_true e6
        rw [e6] at h3 h4 ⊢
        simp only at h3 h4 ⊢
        rw [items0_join Y d d' l6 (by omega) (by rw [List.length_append]; omega) h3 h4]
        simp
theorem items0_comma (l Y : List Pc) (h1 : (items0 l).1 = true) (h2 : (items0 l).2.1 = []) : items0 (l ++ cm Y) = ((items0 Y).1, (items0 Y).2.1, (items0 l).2.2 ++ (items0 Y).2.2) := items0_join Y _ _ l (by omega) (by omega) h1 h2
/-! a text in front without brackets, quotes, comments -/
def noOpen (a : List Int) : Prop := ∀ c ∈ a, c ≠ 40 ∧ c ≠ 34 ∧ c ≠ 91
theorem noOpen_tail {c : Int} {t : List Int} (h : noOpen (c :: t)) : noOpen t := fun x hx => h x (List.mem_cons_of_mem _ hx)
theorem skipL_suffix : ∀ a : List Int, noOpen a → ∃ u, a = u ++ skipL a
  | [], _ => ⟨[], rfl⟩
  | c :: t, h => by
    rw [skipL_cons]
    have hc := h c List.mem_cons_self
    split
    · obtain ⟨u, hu⟩ := skipL_suffix t (noOpen_tail h)
      exact ⟨c :: u, by rw [List.cons_append, ← hu]⟩
    · rw [if_neg hc.1]
      exact ⟨[], rfl⟩
theorem skipL_app (Z : List Int) : ∀ a : List Int, noOpen a → skipL (a ++ Z) = if skipL a = [] then skipL Z else skipL a ++ Z
  | [], _ => by rw [skipL_nil, if_pos rfl]; rfl
  | c :: t, h => by
    have hc := h c List.mem_cons_self
    rw [List.cons_append, skipL_cons, skipL_cons]
    split
    · exact skipL_app Z t (noOpen_tail h)
    · rw [if_neg hc.1, if_neg hc.1, if_neg (by simp)]
      rfl
theorem pln_ext (Z : List Int) (hZ : ∃ z Z', Z = z :: Z' ∧ stopc z = true) : ∀ (n m : Nat) (l : List Int), l.length ≤ n → (l ++ Z).length ≤ m → noOpen l → ∃ w r, pln n l = some (w, r) ∧ pln m (l ++ Z) = some (w, r ++ Z)
  | n, m, [], h1, h2, _ => by
    obtain ⟨z, Z', rfl, hz⟩ := hZ
    obtain ⟨m, rfl⟩ : ∃ q, m = q + 1 := ⟨m - 1, by simp at h2; omega⟩
    refine ⟨[], [], by cases n <;> rfl, ?_⟩
    show pln (m + 1) (z :: Z') = _
    rw [pln, if_pos hz]; rfl
  | 0, _, _ :: _, h, _, _ => by simp at h
  | n + 1, m, c :: t, h1, h2, h3 => by
    obtain ⟨m, rfl⟩ : ∃ q, m = q + 1 := ⟨m - 1, by simp at h2; omega⟩
    have hc := h3 c List.mem_cons_self
    rw [List.cons_append, pln, pln]
    by_cases hs : stopc c = true
    · rw [if_pos hs, if_pos hs]
      exact ⟨[], c :: t, rfl, rfl⟩
    · rw [if_neg hs, if_neg hs, if_neg hc.2.2, if_neg hc.2.2]
      obtain ⟨w, r, e1, e2⟩ := pln_ext Z hZ n m t (by simpa using h1) (by simpa using h2) (noOpen_tail h3)
      rw [e1, e2]
      exact ⟨c :: w, r, rfl, rfl⟩
theorem pcL_app (Z : List Int) (hZ : ∃ z Z', Z = z :: Z' ∧ stopc z = true) : ∀ (n : Nat) (a : List Int), a.length ≤ n → noOpen a → pcL (a ++ Z) = (pcL a).bind fun P => (pcL Z).map (P ++ ·) := by
  have base : ∀ a, noOpen a → skipL a = [] → pcL (a ++ Z) = (pcL a).bind fun P => (pcL Z).map (P ++ ·) := by
    intro a h1 h2
    rw [pcL_nil h2, Option.bind_some]
    have e : skipL (a ++ Z) = skipL Z := by rw [skipL_app Z a h1, if_pos h2]
    have e2 : pcL (a ++ Z) = pcL Z := by
      rw [← pcL_at (a ++ Z) (a ++ Z).length (skipL_len _), e, pcL_at Z _ (by have := skipL_len Z; rw [List.length_append]; omega)]
    rw [e2]
    cases pcL Z with
    | none => rfl
    | some Q => rfl
  intro n
  induction n with
  | zero =>
    intro a h1 h2
    obtain rfl : a = [] := List.eq_nil_of_length_eq_zero (by omega)
    exact base [] h2 rfl
  | succ n ih =>
    intro a h1 h2
    cases hs : skipL a with
    | nil => exact base a h2 hs
    | cons c t =>
      obtain ⟨u, hu⟩ := skipL_suffix a h2
      rw [hs] at hu
      have hal := congrArg List.length hu
      simp only [List.length_append, List.length_cons] at hal
      have hct : noOpen (c :: t) := fun x hx => h2 x (by rw [hu]; exact List.mem_append_right _ hx)
      have hc := hct c List.mem_cons_self
      have hsZ : skipL (a ++ Z) = c :: (t ++ Z) := by rw [skipL_app Z a h2, hs, if_neg (by simp)]; rfl
      rw [pcL_cons hs, pcL_cons hsZ]
      by_cases hg : sgn c = true
      · rw [if_pos hg, if_pos hg, ih t (by omega) (noOpen_tail hct)]
        cases pcL t with
        | none => rfl
        | some P =>
          cases pcL Z with
          | none => rfl
          | some Q => rfl
      · rw [if_neg hg, if_neg hg, if_neg hc.2.1, if_neg hc.2.1]
        obtain ⟨w, r, e1, e2⟩ := pln_ext Z hZ (c :: t).length ((c :: t) ++ Z).length (c :: t) (Nat.le_refl _) (Nat.le_refl _) hct
        have e1' : plnL (c :: t) = some (w, r) := e1
        have e2' : plnL (c :: (t ++ Z)) = some (w, r ++ Z) := e2
        rw [e1', e2', Option.bind_some, Option.bind_some]
        simp only
        by_cases hw : w = []
        · rw [if_pos hw, if_pos hw]; rfl
        · rw [if_neg hw, if_neg hw]
          have e3 := pln_app _ _ _ _ e1
          have e3l := congrArg List.length e3
          simp only [List.length_cons, List.length_append] at e3l
          have hpos := List.length_pos_iff.2 hw
          have hr : noOpen r := fun x hx => hct x (by rw [e3]; exact List.mem_append_right _ hx)
          rw [ih r (by omega) hr]
          cases pcL r with
          | none => rfl
          | some P =>
            cases pcL Z with
            | none => rfl
            | some Q => rfl
end Go.Proofs.Ytcjepgofcojeoaa.Ad
