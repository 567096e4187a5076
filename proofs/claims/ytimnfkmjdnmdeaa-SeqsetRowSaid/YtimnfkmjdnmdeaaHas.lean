/- Which numbers a set has, and those of a row that it has: both printed ways tell the same. -/
import Derived.Test.YtimnfkmjdnmdeaaSeq
import Derived.Test.YtimnfkmjdnmdeaaPx5
import Derived.Test.YtimnfkmjdnmdeaaPx6
set_option linter.unusedVariables false
set_option linter.unusedSimpArgs false
set_option linter.unusedSectionVars false
namespace Go.Proofs.Ytimnfkmjdnmdeaa.Chars
open Go.RowKit Go.Proofs.Ytimnfkmjdnmdeaa.P Go.Proofs.YtimnfkmjdnmdeaaW.PrintWords Go.Proofs.YtimnfkmjdnmdeaaW.PrintLast Go.Proofs.Ytimnfkmjdnmdeaa.Aids
def hit (a b n : Int) : Prop := (a ≤ n ∧ n ≤ b) ∨ (b ≤ n ∧ n ≤ a)
instance (a b n : Int) : Decidable (hit a b n) := inferInstanceAs (Decidable (_ ∨ _))
def inP (x : Int × Int) (n last : Int) : Bool := decide (hit (sq_e x.1 last) (sq_e x.2 last) n)
def hasP (l : List (Int × Int)) (n last : Int) : Bool := l.any fun x => inP x n last
theorem mn_le (a b n : Int) : mn a b ≤ n ↔ a ≤ n ∨ b ≤ n := by
  unfold mn; split <;> omega
theorem le_mx (a b n : Int) : n ≤ mx a b ↔ n ≤ a ∨ n ≤ b := by
  unfold mx; split <;> omega
theorem in_eq (x : Int × Int) (n last : Int) : sq_in (s32 x) n last = inP x n last := by
  unfold sq_in inP
  rw [Bool.eq_iff_iff, Bool.and_eq_true, decide_eq_true_iff, decide_eq_true_iff, decide_eq_true_iff, mn_le, le_mx]
  show _ ↔ hit (sq_e x.1 last) (sq_e x.2 last) n
  unfold hit
  show ((sq_e x.1 last ≤ n ∨ sq_e x.2 last ≤ n) ∧ (n ≤ sq_e x.1 last ∨ n ≤ sq_e x.2 last)) ↔ _
  omega
theorem has_eq (l : List (Int × Int)) (n last : Int) : sq_has (l.map s32) n last = hasP l n last := by
  unfold sq_has hasP
  rw [List.any_map]
  congr 1
  funext x
  exact in_eq x n last
theorem has_ok (l : List (Int × Int)) (n last : Int) (hl : l.length ≤ 100000) : seqset_Has.f (l.map s32) n last = some (hasP l n last) := by
  unfold seqset_Has.f
  rw [if_pos (by simpa using hl), has_eq]
theorem rd33 (l : List (Int × Int)) (i : Nat) (h : i < l.length) : rd_T33 (l.map s33) (i : Int) = s33 l[i] := by
  unfold rd_T33
  rw [Int.toNat_natCast, List.getD_eq_getElem?_getD, List.getElem?_map, List.getElem?_eq_getElem h]; rfl
theorem rd32 (l : List (Int × Int)) (i : Nat) (h : i < l.length) : rd_T32 (l.map s32) (i : Int) = s32 l[i] := by
  unfold rd_T32
  rw [Int.toNat_natCast, List.getD_eq_getElem?_getD, List.getElem?_map, List.getElem?_eq_getElem h]; rfl
section
variable (l : List (Int × Int)) (n last : Int) (hl : l.length ≤ 100000)
include hl
theorem rhas_j1 (i : Nat) (a b : Int) (r : Bool) (hr : hit a (sq_e b last) n → r = true) (go : ¬ hit a (sq_e b last) n → Ev (fun k => letterboxref21_Has.l0 k (l.map s33) n last (wrap64 ((i : Int) + 1))) r) :
    Ev (fun k => letterboxref21_Has.j1 k (l.map s33) n last (i : Int) a b) r := by
  refine st (fun k => by rw [letterboxref21_Has.j1]) ?_
  have main : ∀ b' : Int, (hit a b' n → r = true) → (¬ hit a b' n → Ev (fun k => letterboxref21_Has.l0 k (l.map s33) n last (wrap64 ((i : Int) + 1))) r) →
      Ev (fun k => if a ≤ n then (if n ≤ b' then (some true) else (if b' ≤ n then (if n ≤ a then (some true) else (letterboxref21_Has.l0 k (l.map s33) n last (wrap64 ((i : Int) + 1)))) else (letterboxref21_Has.l0 k (l.map s33) n last (wrap64 ((i : Int) + 1))))) else (if b' ≤ n then (if n ≤ a then (some true) else (letterboxref21_Has.l0 k (l.map s33) n last (wrap64 ((i : Int) + 1)))) else (letterboxref21_Has.l0 k (l.map s33) n last (wrap64 ((i : Int) + 1))))) r := by
    intro b' hr go
    have right : ¬ (a ≤ n ∧ n ≤ b') → Ev (fun k => if b' ≤ n then (if n ≤ a then (some true) else (letterboxref21_Has.l0 k (l.map s33) n last (wrap64 ((i : Int) + 1)))) else (letterboxref21_Has.l0 k (l.map s33) n last (wrap64 ((i : Int) + 1)))) r := by
      intro h0
      by_cases h3 : b' ≤ n
      · by_cases h4 : n ≤ a
        · exact yes h3 (yes h4 (fin (hr (.inr ⟨h3, h4⟩)).symm))
        · exact yes h3 (no h4 (go (fun h => h.elim h0 (fun h => h4 h.2))))
      · exact no h3 (go (fun h => h.elim h0 (fun h => h3 h.1)))
    by_cases h1 : a ≤ n
    · by_cases h2 : n ≤ b'
      · exact yes h1 (yes h2 (fin (hr (.inl ⟨h1, h2⟩)).symm))
      · exact yes h1 (no h2 (right (fun h => h2 h.2)))
    · exact no h1 (right (fun h => h1 h.1))
  by_cases hb : b < 1
  · have e : sq_e b last = last := if_pos hb
    rw [e] at hr go
    exact yes hb (main last hr go)
  · have e : sq_e b last = b := if_neg hb
    rw [e] at hr go
    exact no hb (main b hr go)
theorem rhas_l0 (d : Nat) : ∀ i : Nat, l.length - i ≤ d → i ≤ l.length → Ev (fun k => letterboxref21_Has.l0 k (l.map s33) n last (i : Int)) (hasP (l.drop i) n last) := by
  have stop : Ev (fun k => letterboxref21_Has.l0 k (l.map s33) n last (l.length : Int)) (hasP (l.drop l.length) n last) := by
    refine st (fun k => by rw [letterboxref21_Has.l0]) ?_
    rw [List.drop_eq_nil_of_le (Nat.le_refl _), List.length_map]
    exact no (by omega) (fin rfl)
  induction d with
  | zero =>
    intro i hd hi
    have e : i = l.length := by omega
    subst e; exact stop
  | succ d ih =>
    intro i hd hi
    rcases Nat.lt_or_ge i l.length with hlt | hge
    · have e1 : wrap64 ((i : Int) + 1) = ((i + 1 : Nat) : Int) := by rw [w64 (by omega) (by omega)]; omega
      have go := ih (i + 1) (by omega) hlt
      rw [← e1] at go
      rw [drop_get l i hlt]
      refine st (fun k => by rw [letterboxref21_Has.l0]) ?_
      rw [rd33 l i hlt, List.length_map]
      generalize l[i] = x at go ⊢
      have j1 : ∀ a, a = sq_e x.1 last → Ev (fun k => letterboxref21_Has.j1 k (l.map s33) n last (i : Int) a x.2) (hasP (x :: l.drop (i + 1)) n last) := by
        rintro _ rfl
        refine rhas_j1 l n last hl i _ _ _ (fun h => ?_) (fun h => ?_)
        · unfold hasP
          rw [List.any_cons]
          have : inP x n last = true := decide_eq_true h
          rw [this, Bool.true_or]
        · have e2 : hasP (x :: l.drop (i + 1)) n last = hasP (l.drop (i + 1)) n last := by
            unfold hasP
            rw [List.any_cons]
            have : inP x n last = false := decide_eq_false h
            rw [this, Bool.false_or]
          rw [e2]; exact go
      refine yes (by omega) (yes (by omega) ?_)
      by_cases ha : x.1 < 1
      · exact yes ha (j1 last (if_pos ha).symm)
      · exact no ha (j1 x.1 (if_neg ha).symm)
    · have e : i = l.length := by omega
      subst e; exact stop
theorem rhas_ok : Ev (fun k => letterboxref21_Has.f k (l.map s33) n last) (hasP l n last) := by
  unfold letterboxref21_Has.f
  exact rhas_l0 l n last hl l.length 0 (by omega) (Nat.zero_le _)
end
/-- those of a row that a set has -/
def ofP (l : List (Int × Int)) (xs : List Int) : List Int := xs.filter fun x => hasP l x (rd xs ((xs.length : Int) - 1))
theorem of_ok (l : List (Int × Int)) (xs : List Int) (hl : l.length ≤ 100000) (hx : xs.length ≤ 100000) : seqset_Of.f (l.map s32) xs = some (ofP l xs) := by
  unfold seqset_Of.f sq_of ofP
  rw [if_pos ⟨by simpa using hl, hx⟩]
  simp only [has_eq]
  by_cases h : xs.length = 0
  · rw [if_pos h, List.length_eq_zero_iff.1 h]; rfl
  · rw [if_neg h]
section
variable (l : List (Int × Int)) (xs : List Int) (hl : l.length ≤ 100000) (hx : xs.length ≤ 100000)
include hl hx
theorem rof_l0 (d : Nat) : ∀ (acc : List Int) (i : Nat), xs.length - i ≤ d → i ≤ xs.length → acc.length ≤ i →
    Ev (fun k => letterboxref21_Of.l0 k (l.map s33) xs acc (i : Int)) (acc ++ (xs.drop i).filter fun x => hasP l x (rd xs ((xs.length : Int) - 1))) := by
  have stop : ∀ acc : List Int, Ev (fun k => letterboxref21_Of.l0 k (l.map s33) xs acc (xs.length : Int)) (acc ++ (xs.drop xs.length).filter fun x => hasP l x (rd xs ((xs.length : Int) - 1))) := by
    intro acc
    refine st (fun k => by rw [letterboxref21_Of.l0]) (no (by omega) ?_)
    rw [List.drop_eq_nil_of_le (Nat.le_refl _)]
    exact fin (by simp)
  induction d with
  | zero =>
    intro acc i hd hi ha
    have e : i = xs.length := by omega
    subst e; exact stop acc
  | succ d ih =>
    intro acc i hd hi ha
    rcases Nat.lt_or_ge i xs.length with hlt | hge
    · have e1 : wrap64 ((i : Int) + 1) = ((i + 1 : Nat) : Int) := by rw [w64 (by omega) (by omega)]; omega
      have e2 : wrap64 ((xs.length : Int) - 1) = (xs.length : Int) - 1 := w64 (by omega) (by omega)
      refine st (fun k => by rw [letterboxref21_Of.l0]) ?_
      rw [e1, e2]
      rw [drop_rd xs i hlt]
      refine yes (by omega) (yes (by omega) (yes (by omega) (yes (by omega) (bnd (rhas_ok l _ _ hl) ?_))))
      cases hv : hasP l (rd xs (i : Int)) (rd xs ((xs.length : Int) - 1)) with
      | true =>
        rw [List.filter_cons, if_pos hv]
        refine yes rfl (yes (by omega) ?_)
        have := ih (acc ++ [rd xs (i : Int)]) (i + 1) (by omega) hlt (by simp; omega)
        rwa [List.append_assoc] at this
      | false =>
        rw [List.filter_cons, if_neg (by rw [hv]; decide)]
        exact no (by decide) (ih acc (i + 1) (by omega) hlt (by omega))
    · have e : i = xs.length := by omega
      subst e; exact stop acc
theorem rof_ok : Ev (fun k => letterboxref21_Of.f k (l.map s33) xs) (ofP l xs) := by
  unfold letterboxref21_Of.f
  exact rof_l0 l xs hl hx xs.length [] 0 (by omega) (Nat.zero_le _) (Nat.le_refl _)
end
theorem same_l0 (xs : List Int) (hx : xs.length ≤ 1000000) (d : Nat) : ∀ i : Nat, xs.length - i ≤ d → i ≤ xs.length → Ev (fun k => letterboxlaw21_same.l0 k xs xs (i : Int)) true := by
  have stop : Ev (fun k => letterboxlaw21_same.l0 k xs xs (xs.length : Int)) true := st (fun k => by rw [letterboxlaw21_same.l0]) (no (by omega) (fin rfl))
  induction d with
  | zero =>
    intro i hd hi
    have e : i = xs.length := by omega
    subst e; exact stop
  | succ d ih =>
    intro i hd hi
    rcases Nat.lt_or_ge i xs.length with hlt | hge
    · have e1 : wrap64 ((i : Int) + 1) = ((i + 1 : Nat) : Int) := by rw [w64 (by omega) (by omega)]; omega
      refine st (fun k => by rw [letterboxlaw21_same.l0]) ?_
      rw [e1]
      exact yes (by omega) (yes (by omega) (yes (by omega) (yes rfl (ih (i + 1) (by omega) hlt))))
    · have e : i = xs.length := by omega
      subst e; exact stop
theorem same_ok (xs ys : List Int) (h : xs = ys) (hx : xs.length ≤ 1000000) : Ev (fun k => letterboxlaw21_same.f k xs ys) true := by
  subst h
  unfold letterboxlaw21_same.f
  exact yes rfl (same_l0 xs hx xs.length 0 (by omega) (Nat.zero_le _))
theorem of_len (l : List (Int × Int)) (xs : List Int) : (ofP l xs).length ≤ xs.length := List.length_filter_le _ _
end Go.Proofs.Ytimnfkmjdnmdeaa.Chars
