/- The law AddrParts holds: a list behind a comma is told behind the first; comments and blanks make no difference. -/
import Derived.Test.YtcjepgofcojeoaaAd3
import Derived.Test.YtcjepgofcojeoaaPx4
set_option linter.unusedVariables false
set_option linter.unusedSimpArgs false
namespace Go.Proofs.Ytcjepgofcojeoaa.Pure
open Go.RowKit Go.Proofs.Ytcjepgofcojeoaa.P Go.Proofs.YtcjepgofcojeoaaW.PrintWords Go.Proofs.YtcjepgofcojeoaaW.PrintLast Go.Proofs.Ytcjepgofcojeoaa.Aids Go.Proofs.Ytcjepgofcojeoaa.Ad
theorem awake : Ev (fun k => letterboxlaw10_awake.f k) true := evk (fun k => letterboxlaw10_awake.mono k) 60 (by decide +kernel)
theorem listL_false {s : List Int} (h : (listL s).2 = false) : (listL s).1 = [] := by
  unfold listL at h ⊢
  cases hp : pcL s with
  | none => rfl
  | some P =>
    rw [hp] at h
    simp only at h ⊢
    split at h
    · split at h
      · cases h
      · rename_i h1 h2; rw [if_pos h1, if_neg h2]
    · rename_i h1; rw [if_neg h1]
theorem listL_true {s : List Int} (h : (listL s).2 = true) : ∃ P, pcL s = some P ∧ (items0 P).1 = true ∧ (items0 P).2.1 = [] ∧ (listL s).1 = (items0 P).2.2 := by
  unfold listL at h ⊢
  cases hp : pcL s with
  | none => rw [hp] at h; cases h
  | some P =>
    rw [hp] at h
    simp only at h ⊢
    by_cases h1 : (items0 P).1 = true
    · rw [if_pos h1] at h
      by_cases h2 : (items0 P).2.1 = []
      · exact ⟨P, rfl, h1, h2, by rw [if_pos h1, if_pos h2]⟩
      · rw [if_neg h2] at h; cases h
    · rw [if_neg h1] at h; cases h
theorem listL_of {s : List Int} {P : List Pc} (hp : pcL s = some P) (h1 : (items0 P).1 = true) (h2 : (items0 P).2.1 = []) : listL s = ((items0 P).2.2, true) := by
  unfold listL
  rw [hp]
  simp only
  rw [if_pos h1, if_pos h2]
theorem list_comma {a b : List Int} (ha : noOpen a) (h1 : (listL a).2 = true) (h2 : (listL b).2 = true) : listL (a ++ 44 :: b) = ((listL a).1 ++ (listL b).1, true) := by
  obtain ⟨P, p1, p2, p3, p4⟩ := listL_true h1
  obtain ⟨Q, q1, q2, q3, q4⟩ := listL_true h2
  have hZ : pcL (44 :: b) = some (cm Q) := by
    rw [pcL_cons (l := 44 :: b) (t := b) (c := 44) (by rw [skipL_cons, if_neg (by decide), if_neg (by decide)]), if_pos (by decide), q1]
    rfl
  have hp : pcL (a ++ 44 :: b) = some (P ++ cm Q) := by
    rw [pcL_app (44 :: b) ⟨44, b, rfl, by decide⟩ a.length a (Nat.le_refl _) ha, p1, hZ]
    rfl
  have hi := items0_comma P Q p2 p3
  rw [listL_of hp (by rw [hi]; exact q2) (by rw [hi]; exact q3), hi, p4, q4]
theorem list_around {a : List Int} (ha : noOpen a) (h1 : (listL a).2 = true) : listL ([32, 40, 99, 40, 100, 41, 41, 32] ++ a ++ [9, 40, 101, 41]) = ((listL a).1, true) := by
  obtain ⟨P, p1, p2, p3, p4⟩ := listL_true h1
  have hZ : pcL [9, 40, 101, 41] = some [] := by
    refine pcL_nil ?_
    simp [skipL_cons, com_cons, com_nil, skipL_nil]
  have e : skipL ([32, 40, 99, 40, 100, 41, 41, 32] ++ a ++ [9, 40, 101, 41]) = skipL (a ++ [9, 40, 101, 41]) := by
    rw [List.append_assoc]
    generalize a ++ [9, 40, 101, 41] = z
    simp [skipL_cons, com_cons]
  have hp : pcL ([32, 40, 99, 40, 100, 41, 41, 32] ++ a ++ [9, 40, 101, 41]) = some P := by
    rw [← pcL_at _ ([32, 40, 99, 40, 100, 41, 41, 32] ++ a ++ [9, 40, 101, 41]).length (skipL_len _), e, pcL_at (a ++ [9, 40, 101, 41]) _ (by have := skipL_len (a ++ [9, 40, 101, 41]); simp at this ⊢; omega), pcL_app [9, 40, 101, 41] ⟨9, _, rfl, by decide⟩ a.length a (Nat.le_refl _) ha, p1, hZ]
    simp
  rw [listL_of hp p2 p3, p4]
theorem rdT (l : List S27) (i : Nat) (h : i < l.length) : rd_T27 l (i : Int) = l[i] := by
  unfold rd_T27
  rw [Int.toNat_natCast, List.getD_eq_getElem?_getD, List.getElem?_eq_getElem h]; rfl
section
variable (a : List Int) (hb : byte a) (hl : a.length ≤ 150) (X Y : List S27) (hX : X.length ≤ 10000) (hY : Y.length ≤ 10000)
include hb hl hX hY
theorem parts_l1 (hw : listL ([32, 40, 99, 40, 100, 41, 41, 32] ++ a ++ [9, 40, 101, 41]) = (X, true)) (m : Nat) : ∀ i : Nat, (X ++ Y).length - i ≤ m → i ≤ (X ++ Y).length → Ev (fun k => letterboxlaw10_AddrParts.l1 k (strOfNums a) X Y (X ++ Y) (i : Int)) true := by
  have stop : Ev (fun k => letterboxlaw10_AddrParts.l1 k (strOfNums a) X Y (X ++ Y) (((X ++ Y).length : Nat) : Int)) true := by
    refine st (fun k => by rw [letterboxlaw10_AddrParts.l1]) ?_
    refine no (by omega) ?_
    rw [show (⟨#[32, 40, 99, 40, 100, 41, 41, 32]⟩ : ByteArray) = strOfNums [32, 40, 99, 40, 100, 41, 41, 32] from rfl, show (⟨#[9, 40, 101, 41]⟩ : ByteArray) = strOfNums [9, 40, 101, 41] from rfl]
    simp only [str_append, strOfNums_size]
    refine yes (by omega) (yes (by simp; omega) ?_)
    have hbb : byte ([32, 40, 99, 40, 100, 41, 41, 32] ++ a ++ [9, 40, 101, 41]) := by
      refine byte_append (byte_append ?_ hb) ?_
      · intro c hc; simp at hc; omega
      · intro c hc; simp at hc; omega
    have hlo := list_ok (s := [32, 40, 99, 40, 100, 41, 41, 32] ++ a ++ [9, 40, 101, 41]) hbb (by simp; omega)
    rw [hw] at hlo
    exact bnd hlo (yes rfl (fin (by simp)))
  induction m with
  | zero =>
    intro i h1 h2
    obtain rfl : i = (X ++ Y).length := by omega
    exact stop
  | succ m ih =>
    intro i h1 h2
    rcases Nat.lt_or_ge i (X ++ Y).length with hlt | hge
    · have hlen : (X ++ Y).length = X.length + Y.length := List.length_append
      have e1 := wr1 (i := i) (by omega)
      have hn := ih (i + 1) (by omega) (by omega)
      refine st (fun k => by rw [letterboxlaw10_AddrParts.l1]) ?_
      rw [rdT _ i hlt]
      simp only [e1]
      clear e1
      refine yes (by omega) ?_
      by_cases hx : i < X.length
      · rw [rdT X i hx, List.getElem_append_left hx]
        exact yes (by omega) (yes (by omega) (no (by simp) (no (by omega) hn)))
      · have e2 : wrap64 ((i : Int) - (X.length : Int)) = ((i - X.length : Nat) : Int) := by rw [w64 (by omega) (by omega)]; omega
        simp only [e2]
        rw [rdT Y (i - X.length) (by omega), List.getElem_append_right (by omega)]
        exact no (by omega) (yes (by omega) (yes (by omega) (yes (by omega) (yes (by omega) (no (by simp) hn)))))
    · obtain rfl : i = (X ++ Y).length := by omega
      exact stop
theorem parts_l0 (Z : List S27) (r : Bool) (hz : noOpen a → Z = X ++ Y ∧ r = true ∧ listL ([32, 40, 99, 40, 100, 41, 41, 32] ++ a ++ [9, 40, 101, 41]) = (X, true)) (m : Nat) :
    ∀ (i : Nat) (o : Bool), a.length - i ≤ m → i ≤ a.length → (o = false → ∀ j : Nat, j < i → rd a (j : Int) ≠ 40 ∧ rd a (j : Int) ≠ 34 ∧ rd a (j : Int) ≠ 91) → Ev (fun k => letterboxlaw10_AddrParts.l0 k (strOfNums a) X Y Z r o (i : Int)) true := by
  have stop : ∀ o : Bool, (o = false → ∀ j : Nat, j < a.length → rd a (j : Int) ≠ 40 ∧ rd a (j : Int) ≠ 34 ∧ rd a (j : Int) ≠ 91) → Ev (fun k => letterboxlaw10_AddrParts.l0 k (strOfNums a) X Y Z r o (a.length : Int)) true := by
    intro o ho
    refine st (fun k => by rw [letterboxlaw10_AddrParts.l0]) ?_
    simp only [strOfNums_size]
    refine no (by omega) ?_
    cases o with
    | true => exact yes rfl (fin rfl)
    | false =>
      have hno : noOpen a := by
        intro c hc
        obtain ⟨j, hj, rfl⟩ := List.getElem_of_mem hc
        have := ho rfl j hj
        rw [rd_at a j hj] at this
        exact this
      obtain ⟨rfl, rfl, hw⟩ := hz hno
      refine no (by decide) (yes rfl ?_)
      have e : wrap64 ((X.length : Int) + (Y.length : Int)) = (((X ++ Y).length : Nat) : Int) := by rw [w64 (by omega) (by omega), List.length_append]; omega
      rw [e, bne_self_eq_false]
      refine st (fun k => by rw [letterboxlaw10_AddrParts.j3]) ?_
      exact no (by decide) (parts_l1 a hb hl X Y hX hY hw _ 0 (Nat.le_refl _) (Nat.zero_le _))
  induction m with
  | zero =>
    intro i o h1 h2 h3
    obtain rfl : i = a.length := by omega
    exact stop o h3
  | succ m ih =>
    intro i o h1 h2 h3
    rcases Nat.lt_or_ge i a.length with hlt | hge
    · have e1 := wr1 (i := i) (by omega)
      refine st (fun k => by rw [letterboxlaw10_AddrParts.l0]) ?_
      simp only [strOfNums_size, str_bt _ hb, e1]
      clear e1
      refine yes (by omega) ?_
      have hT := ih (i + 1) true (by omega) hlt (fun e => by cases e)
      cases o with
      | true => exact yes rfl hT
      | false =>
        refine no (by decide) (yes (by omega) ?_)
        by_cases c1 : rd a (i : Int) = 40
        · exact yes c1 hT
        · refine no c1 ?_
          by_cases c2 : rd a (i : Int) = 34
          · exact yes c2 hT
          · refine no c2 (ih (i + 1) _ (by omega) hlt ?_)
            intro e j hj
            by_cases hji : j = i
            · subst hji
              exact ⟨c1, c2, by rw [beq_eq_false_iff_ne] at e; exact e⟩
            · exact h3 rfl j (by omega)
    · obtain rfl : i = a.length := by omega
      exact stop o h3
end
theorem list_len {s : List Int} (hl : s.length ≤ 1000) : (listL s).1.length ≤ 1000 := by
  cases h : (listL s).2 with
  | false => rw [listL_false h]; simp
  | true =>
    obtain ⟨P, p1, p2, p3, p4⟩ := listL_true h
    have hs := pcL_small (by omega) p1
    have h2 := pcs_small s.length (skipL s) P (skipL_len s) p1
    have h3 := items_fit fit_item0 P hs.2
    have h4 := skipL_len s
    have h5 : (items0 P).2.1.length + (items0 P).2.2.length ≤ P.length := h3.2
    rw [p4]
    omega
theorem AddrParts : letterboxlaw10_AddrParts.Pure := by
  intro a0 a1 h0 h1
  refine Ev.rounds (g := fun k => letterboxlaw10_AddrParts.f k a0 a1) ?_
  unfold letterboxlaw10_AddrParts.f
  refine bnd awake (yes rfl ?_)
  have hT : Ev (fun k => letterboxlaw10_AddrParts.j0 k a0 a1 true) true := st (fun k => by rw [letterboxlaw10_AddrParts.j0]) (yes rfl (fin rfl))
  by_cases c1 : (a0.size : Int) > 150
  · exact yes c1 hT
  · refine no c1 ?_
    by_cases c2 : (a1.size : Int) > 150
    · rw [decide_eq_true c2]; exact hT
    · rw [decide_eq_false c2]
      obtain ⟨a, ha⟩ : ∃ a, bytesOf a0 = a := ⟨_, rfl⟩
      obtain ⟨b, hb⟩ : ∃ b, bytesOf a1 = b := ⟨_, rfl⟩
      have ea : a0 = strOfNums a := by rw [← ha, str_bytes]
      have eb : a1 = strOfNums b := by rw [← hb, str_bytes]
      have ba : byte a := by rw [← ha]; exact byte_bytes a0
      have bb : byte b := by rw [← hb]; exact byte_bytes a1
      have la : a.length ≤ 150 := by rw [← ha, size_bytes]; omega
      have lb : b.length ≤ 150 := by rw [← hb, size_bytes]; omega
      rw [ea, eb]
      clear ea eb ha hb c1 c2 h0 h1
      have bz : byte (a ++ 44 :: b) := byte_append ba (byte_cons (by omega) bb)
      refine st (fun k => by rw [letterboxlaw10_AddrParts.j0]) ?_
      refine no (by decide) (bnd (list_ok ba (by omega)) (bnd (list_ok bb (by omega)) ?_))
      rw [show (⟨#[44]⟩ : ByteArray) = strOfNums [44] from rfl]
      simp only [str_append, strOfNums_size]
      refine yes (by omega) (yes (by simp; omega) ?_)
      have hz := list_ok (s := a ++ 44 :: b) bz (by simp; omega)
      have e : a ++ [44] ++ b = a ++ 44 :: b := by simp
      rw [e]
      refine bnd hz ?_
      have hXl := list_len (s := a) (by omega)
      have hYl := list_len (s := b) (by omega)
      have hbad : ∀ Z r, ((listL a).2 = false ∨ (listL b).2 = false) → Ev (fun k => letterboxlaw10_AddrParts.j1 k (strOfNums a) (listL a).1 (listL b).1 Z r true) true := by
        intro Z r h
        refine st (fun k => by rw [letterboxlaw10_AddrParts.j1]) ?_
        refine yes rfl ?_
        rcases h with h | h
        · exact yes (by rw [listL_false h]; rfl) (fin rfl)
        · by_cases hx : ((listL a).1.length : Int) = 0
          · exact yes hx (fin rfl)
          · exact no hx (fin (by rw [listL_false h]; rfl))
      cases hp : (listL a).2 with
      | false => exact no (by decide) (hbad _ _ (.inl hp))
      | true =>
        refine yes rfl ?_
        cases hq : (listL b).2 with
        | false => exact hbad _ _ (.inr hq)
        | true =>
          refine st (fun k => by rw [letterboxlaw10_AddrParts.j1]) ?_
          refine no (by decide) ?_
          refine parts_l0 a ba la _ _ (by omega) (by omega) _ _ (fun hno => ?_) _ 0 false (Nat.le_refl _) (Nat.zero_le _) (fun _ j hj => absurd hj (Nat.not_lt_zero j))
          have hc := list_comma hno hp hq
          exact ⟨by rw [hc], by rw [hc], list_around hno hp⟩
end Go.Proofs.Ytcjepgofcojeoaa.Pure
