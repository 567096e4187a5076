/- The law SeqsetRow holds: the set of any rising numbers has just these, in as few ranges as may be. -/
import Derived.Test.YtimnfkmjdnmdeaaRise
import Derived.Test.YtimnfkmjdnmdeaaPx7
set_option linter.unusedVariables false
set_option linter.unusedSectionVars false
namespace Go.Proofs.Ytimnfkmjdnmdeaa.Pure
open Go.RowKit Go.Proofs.Ytimnfkmjdnmdeaa.P Go.Proofs.YtimnfkmjdnmdeaaW.PrintWords Go.Proofs.YtimnfkmjdnmdeaaW.PrintLast Go.Proofs.Ytimnfkmjdnmdeaa.Aids Go.Proofs.Ytimnfkmjdnmdeaa.Chars
/-- the ranges of rising numbers behind those that are there, the last of which is c -/
def rowG (A : List (Int × Int)) (c : Int × Int) : List Int → List (Int × Int)
  | [] => A ++ [c]
  | x :: t => if c.2 + 1 = x then rowG A (c.1, x) t else rowG (A ++ [c]) (x, x) t
def rowOf : List Int → List (Int × Int)
  | [] => []
  | x :: t => rowG [] (x, x) t
def cnt : List Int → Int
  | [] => 0
  | b :: t => (if gap 3 b > 1 then 1 else 0) + cnt t
theorem row_len : ∀ (gs : List Int) (A : List (Int × Int)) (c : Int × Int), byte gs → ((rowG A c (run 3 gs c.2)).length : Int) = A.length + 1 + cnt gs
  | [], A, c, _ => by simp [rowG, run, cnt]
  | b :: t, A, c, hb => by
    have g := gap_pos 3 (by decide) b (hb b List.mem_cons_self)
    have g' : 1 ≤ gap 3 b ∧ gap 3 b ≤ 8 := g
    have ht : byte t := fun x hx => hb x (List.mem_cons_of_mem _ hx)
    rw [run, rowG, cnt]
    generalize gap 3 b = q at g' ⊢
    by_cases h : c.2 + 1 = c.2 + q
    · rw [if_pos h, if_neg (by omega)]
      have := row_len t A (c.1, c.2 + q) ht
      rw [this]; omega
    · rw [if_neg h, if_pos (by omega)]
      have := row_len t (A ++ [c]) (c.2 + q, c.2 + q) ht
      rw [this]; simp only [List.length_append, List.length_singleton]; omega
theorem hasP_append (l m : List (Int × Int)) (n z : Int) : hasP (l ++ m) n z = (hasP l n z || hasP m n z) := by
  unfold hasP; exact List.any_append
theorem hasP_one (x : Int × Int) (n z : Int) (h1 : 1 ≤ x.1) (h2 : 1 ≤ x.2) : hasP [x] n z = decide (hit x.1 x.2 n) := by
  unfold hasP inP
  simp only [List.any_cons, List.any_nil, Bool.or_false]
  rw [show sq_e x.1 z = x.1 from if_neg (by omega), show sq_e x.2 z = x.2 from if_neg (by omega)]
theorem row_has : ∀ (xs : List Int) (A : List (Int × Int)) (c : Int × Int), 1 ≤ c.1 → c.1 ≤ c.2 → (∀ x ∈ xs, 1 ≤ x) → ∀ n z, hasP (rowG A c xs) n z = (hasP (A ++ [c]) n z || decide (n ∈ xs))
  | [], A, c, _, _, _, n, z => by simp [rowG]
  | x :: t, A, c, h1, h2, hx, n, z => by
    have hx1 := hx x List.mem_cons_self
    have ht : ∀ y ∈ t, 1 ≤ y := fun y hy => hx y (List.mem_cons_of_mem _ hy)
    have two : decide (n ∈ x :: t) = (decide (n = x) || decide (n ∈ t)) := by
      rw [Bool.eq_iff_iff]; simp
    rw [rowG, two]
    by_cases h : c.2 + 1 = x
    · rw [if_pos h, row_has t A (c.1, x) h1 (by show c.1 ≤ x; omega) ht n z, hasP_append, hasP_append, hasP_one (c.1, x) n z h1 (show 1 ≤ x by omega), hasP_one c n z h1 (by omega)]
      have : decide (hit (c.1, x).1 (c.1, x).2 n) = (decide (hit c.1 c.2 n) || decide (n = x)) := by
        rw [Bool.eq_iff_iff, Bool.or_eq_true, decide_eq_true_iff, decide_eq_true_iff, decide_eq_true_iff]
        unfold hit; show (c.1 ≤ n ∧ n ≤ x ∨ x ≤ n ∧ n ≤ c.1) ↔ _; omega
      rw [this, Bool.or_assoc, Bool.or_assoc, Bool.or_assoc]
    · rw [if_neg h, row_has t (A ++ [c]) (x, x) hx1 (Int.le_refl _) ht n z, hasP_append (A ++ [c]), hasP_one (x, x) _ _ hx1 hx1]
      have : decide (hit (x, x).1 (x, x).2 n) = decide (n = x) := by
        rw [decide_eq_decide]; unfold hit; show (x ≤ n ∧ n ≤ x ∨ x ≤ n ∧ n ≤ x) ↔ _; omega
      rw [this, Bool.or_assoc]
theorem rowOf_has (xs : List Int) (h : ∀ x ∈ xs, 1 ≤ x) (n z : Int) : hasP (rowOf xs) n z = decide (n ∈ xs) := by
  cases xs with
  | nil => simp [rowOf, hasP]
  | cons x t =>
    have hx1 := h x List.mem_cons_self
    rw [rowOf, row_has t [] (x, x) hx1 (Int.le_refl _) (fun y hy => h y (List.mem_cons_of_mem _ hy)), List.nil_append, hasP_one (x, x) _ _ hx1 hx1]
    rw [Bool.eq_iff_iff, Bool.or_eq_true, decide_eq_true_iff, decide_eq_true_iff, decide_eq_true_iff, List.mem_cons]
    unfold hit; show (x ≤ n ∧ n ≤ x ∨ x ≤ n ∧ n ≤ x) ∨ _ ↔ _
    constructor
    · rintro (h | h)
      · exact .inl (by omega)
      · exact .inr h
    · rintro (h | h)
      · exact .inl (.inl (by omega))
      · exact .inr h
theorem rowG_len : ∀ (xs : List Int) (A : List (Int × Int)) (c : Int × Int), (rowG A c xs).length ≤ A.length + 1 + xs.length
  | [], A, c => by simp [rowG]
  | x :: t, A, c => by
    rw [rowG]
    split
    · have := rowG_len t A (c.1, x); simp only [List.length_cons]; omega
    · have := rowG_len t (A ++ [c]) (x, x); simp only [List.length_append, List.length_cons, List.length_nil] at *; omega
theorem rowOf_len (xs : List Int) : (rowOf xs).length ≤ xs.length := by
  cases xs with
  | nil => simp [rowOf]
  | cons x t => have := rowG_len t [] (x, x); rw [rowOf]; simp only [List.length_cons, List.length_nil] at *; omega
section
variable (xs : List Int) (hl : xs.length ≤ 1000) (hx : ∀ x ∈ xs, 1 ≤ x ∧ x ≤ 100000)
include hl hx
theorem row_l0 (d : Nat) : ∀ (A : List (Int × Int)) (c : Int × Int) (i : Nat), xs.length - i ≤ d → i ≤ xs.length → A.length ≤ i → 1 ≤ c.2 ∧ c.2 ≤ 100000 →
    Ev (fun k => seqset_Row.l0 k ((A ++ [c]).map s32) xs (xs.length : Int) (i : Int)) ((rowG A c (xs.drop i)).map s32) := by
  have stop : ∀ (A : List (Int × Int)) (c : Int × Int), Ev (fun k => seqset_Row.l0 k ((A ++ [c]).map s32) xs (xs.length : Int) (xs.length : Int)) ((rowG A c (xs.drop xs.length)).map s32) := by
    intro A c
    refine st (fun k => by rw [seqset_Row.l0]) ?_
    rw [List.drop_eq_nil_of_le (Nat.le_refl _)]
    exact no (by omega) (fin rfl)
  induction d with
  | zero =>
    intro A c i hd hi _ _
    have e : i = xs.length := by omega
    subst e; exact stop A c
  | succ d ih =>
    intro A c i hd hi ha hc
    rcases Nat.lt_or_ge i xs.length with hlt | hge
    · have e1 : wrap64 ((i : Int) + 1) = ((i + 1 : Nat) : Int) := by rw [w64 (by omega) (by omega)]; omega
      have hr := hx _ (rd_mem xs i hlt)
      have e2 : (((A ++ [c]).map s32).length : Int) - 1 = (A.length : Int) := by simp
      have e4 : (((A ++ [c]).map s32).length : Int) = (A.length : Int) + 1 := by simp
      have e3 : wrap64 (A.length : Int) = (A.length : Int) := w64 (by omega) (by omega)
      have e5 : rd_T32 ((A ++ [c]).map s32) (A.length : Int) = s32 c := by
        rw [rd32 (A ++ [c]) A.length (by simp)]; congr 1; simp
      have e6 : wrap64 ((s32 c).f1 + 1) = c.2 + 1 := w64 (x := c.2 + 1) (by omega) (by omega)
      rw [drop_rd xs i hlt, rowG]
      refine st (fun k => by rw [seqset_Row.l0]) ?_
      rw [e1, e2, e3, e5, e6, e4]
      refine yes (by omega) (yes (by omega) (yes (by omega) (yes (by omega) (yes (by omega) (yes (by omega) ?_)))))
      by_cases h : c.2 + 1 = rd xs (i : Int)
      · rw [if_pos h]
        refine yes h ?_
        have := ih A (c.1, rd xs (i : Int)) (i + 1) (by omega) hlt (by omega) hr
        have e7 : (((A ++ [c]).map s32).set (A.length : Int).toNat (⟨(s32 c).f0, rd xs (i : Int)⟩ : S32)) = (A ++ [(c.1, rd xs (i : Int))]).map s32 := by
          rw [Int.toNat_natCast, List.map_append, List.set_append_right _ _ (by simp), List.length_map, Nat.sub_self, List.map_append]; rfl
        rw [e7]; exact this
      · rw [if_neg h]
        refine no h (yes (by have : ((A ++ [c]).map s32).length = A.length + 1 := by simp
                             omega) ?_)
        have := ih (A ++ [c]) (rd xs (i : Int), rd xs (i : Int)) (i + 1) (by omega) hlt (by simp; omega) hr
        rw [List.map_append (l₁ := A ++ [c])] at this
        exact this
    · have e : i = xs.length := by omega
      subst e; exact stop A c
theorem row_ok : Ev (fun k => seqset_Row.f k xs) ((rowOf xs).map s32) := by
  unfold seqset_Row.f
  refine st (fun k => by rw [seqset_Row.l0]) ?_
  have e0 : wrap64 ((([] : List S32).length : Int) - 1) = -1 := by rw [w64 (by simp) (by simp)]; rfl
  rw [e0]
  cases xs with
  | nil => exact no (by simp) (fin rfl)
  | cons x t =>
    have hr := hx x List.mem_cons_self
    have e1 : wrap64 ((0 : Int) + 1) = ((1 : Nat) : Int) := by rw [w64 (by omega) (by omega)]; rfl
    have h := row_l0 (x :: t) hl hx t.length [] (x, x) 1 (by simp) (by simp) (by simp) hr
    rw [e1]
    have er : rd (x :: t) 0 = x := rfl
    rw [er]
    exact yes (by simp) (yes (Int.le_refl _) (yes (by simp) (no (by omega) (yes (by decide) h))))
end
section
variable (gs : List Int) (hb : byte gs) (hl : gs.length ≤ 60)
include hb hl
theorem row_l1 (xs : List Int) (T : Int) (hT : 0 ≤ T ∧ T ≤ 10000) (hxl : xs.length ≤ 60) (hx : ∀ x ∈ xs, 1 ≤ x ∧ x ≤ T) (runs : Int) (hruns : ((rowOf xs).length : Int) = runs) (d : Nat) : ∀ (acc rest : List Int) (n : Int), T + 4 - n ≤ d → 1 ≤ n → n ≤ T + 4 → acc ++ rest = xs → (∀ x ∈ acc, x < n) → (∀ x ∈ rest, n ≤ x) → rest.Pairwise (· < ·) →
    Ev (fun k => letterboxlaw21_SeqsetRow.l1 k xs T runs ((rowOf xs).map s32) acc n) true := by
  have e0 : wrap64 (T + 3) = T + 3 := w64 (by omega) (by omega)
  have hrl := rowOf_len xs
  have stop : ∀ (acc rest : List Int) (n : Int), n = T + 4 → acc ++ rest = xs → (∀ x ∈ rest, n ≤ x) → Ev (fun k => letterboxlaw21_SeqsetRow.l1 k xs T runs ((rowOf xs).map s32) acc n) true := by
    intro acc rest n hn h1 h2
    have hr : rest = [] := by
      apply List.eq_nil_iff_forall_not_mem.2
      intro x hm
      have a := h2 x hm
      have b := (hx x (h1 ▸ List.mem_append_right _ hm)).2
      omega
    rw [hr, List.append_nil] at h1
    subst h1
    refine st (fun k => by rw [letterboxlaw21_SeqsetRow.l1]) ?_
    rw [e0]
    have ho : ofP (rowOf acc) acc = acc := by
      unfold ofP
      refine List.filter_eq_self.2 (fun x hm => ?_)
      rw [rowOf_has acc (fun y hy => (hx y hy).1)]
      exact decide_eq_true hm
    refine no (by omega) (yes (by rw [List.length_map]; exact hruns) (bnd (same_ok _ _ rfl (by omega)) (yes rfl ?_)))
    rw [of_ok (rowOf acc) acc (by omega) (by omega), ho]
    exact bs (bnd (same_ok _ _ rfl (by omega)) (fin rfl))
  induction d with
  | zero =>
    intro acc rest n hd h1 h2 h3 h4 h5 _
    exact stop acc rest n (by omega) h3 h5
  | succ d ih =>
    intro acc rest n hd h1 h2 h3 h4 h5 h6
    rcases Int.lt_or_le n (T + 4) with hlt | hge
    · have e1 : wrap64 (n + 1) = n + 1 := w64 (by omega) (by omega)
      refine st (fun k => by rw [letterboxlaw21_SeqsetRow.l1]) ?_
      rw [e0, e1, has_ok (rowOf xs) n T (by omega), rowOf_has xs (fun y hy => (hx y hy).1)]
      refine yes (by omega) (bs ?_)
      cases rest with
      | nil =>
        have hn : decide (n ∈ xs) = false := by
          refine decide_eq_false (fun hm => ?_)
          rw [← h3, List.append_nil] at hm
          have := h4 n hm; omega
        rw [hn]
        exact no (by decide) (ih acc [] (n + 1) (by omega) (by omega) (by omega) h3 (fun x hm => by have := h4 x hm; omega) (fun x hm => by cases hm) h6)
      | cons y t =>
        have hy := h5 y List.mem_cons_self
        have hp := List.pairwise_cons.1 h6
        by_cases hyn : y = n
        · subst hyn
          have hn : decide (y ∈ xs) = true := decide_eq_true (h3 ▸ List.mem_append_right _ List.mem_cons_self)
          rw [hn]
          refine yes rfl (yes ?_ (ih (acc ++ [y]) t (y + 1) (by omega) (by omega) (by omega) (by rw [List.append_assoc]; exact h3) (fun x hm => ?_) (fun x hm => ?_) hp.2))
          · have : acc.length ≤ xs.length := by rw [← h3]; simp
            omega
          · rcases List.mem_append.1 hm with hm | hm
            · have := h4 x hm; omega
            · rw [List.mem_singleton.1 hm]; omega
          · have := hp.1 x hm; omega
        · have hn : decide (n ∈ xs) = false := by
            refine decide_eq_false (fun hm => ?_)
            rw [← h3] at hm
            rcases List.mem_append.1 hm with hm | hm
            · have := h4 n hm; omega
            · rcases List.mem_cons.1 hm with hm | hm
              · exact hyn hm.symm
              · have := hp.1 n hm; omega
          rw [hn]
          refine no (by decide) (ih acc (y :: t) (n + 1) (by omega) (by omega) (by omega) h3 (fun x hm => by have := h4 x hm; omega) (fun x hm => ?_) h6)
          rcases List.mem_cons.1 hm with rfl | hm
          · omega
          · have := hp.1 x hm; omega
    · exact stop acc rest n (by omega) h3 h5
end
theorem run_pair (m : Nat) (hm : m ≤ 7) : ∀ (l : List Int) (a : Int), byte l → (run m l a).Pairwise (· < ·)
  | [], a, _ => List.Pairwise.nil
  | b :: t, a, hb => by
    have ht : byte t := fun x hx => hb x (List.mem_cons_of_mem _ hx)
    rw [run]
    exact List.pairwise_cons.2 ⟨fun x hx => (run_mem m hm t _ ht x hx).1, run_pair m hm t _ ht⟩
theorem cnt_ge : ∀ l : List Int, 0 ≤ cnt l ∧ cnt l ≤ l.length
  | [] => by simp [cnt]
  | b :: t => by
    have := cnt_ge t
    rw [cnt]; simp only [List.length_cons]; split <;> omega
def cntF : List Int → Int
  | [] => 0
  | b :: t => 1 + cnt t
theorem rowOf_run (gs : List Int) (hb : byte gs) : ((rowOf (run 3 gs 0)).length : Int) = cntF gs := by
  cases gs with
  | nil => rfl
  | cons b t =>
    have h := row_len t [] (0 + gap 3 b, 0 + gap 3 b) (fun x hx => hb x (List.mem_cons_of_mem _ hx))
    show ((rowG [] (0 + gap 3 b, 0 + gap 3 b) (run 3 t (0 + gap 3 b))).length : Int) = 1 + cnt t
    rw [h]; simp
section
variable (gs : List Int) (hb : byte gs) (hl : gs.length ≤ 60)
include hb hl
theorem row_end : Ev (fun k => letterboxlaw21_SeqsetRow.l0 k gs (run 3 gs 0) (Chars.last_ 3 gs 0) (cntF gs) (gs.length : Int)) true := by
  have hn : (run 3 gs 0).length = gs.length := run_len 3 (by decide) gs 0
  have hg : 0 + (gs.length : Int) ≤ Chars.last_ 3 gs 0 ∧ Chars.last_ 3 gs 0 ≤ 0 + 8 * (gs.length : Int) := last_ge 3 (by decide) gs 0 hb
  have hm : ∀ x ∈ run 3 gs 0, 0 < x ∧ x ≤ Chars.last_ 3 gs 0 := run_mem 3 (by decide) gs 0 hb
  have hp : (run 3 gs 0).Pairwise (· < ·) := run_pair 3 (by decide) gs 0 hb
  have hc := rowOf_run gs hb
  refine st (fun k => by rw [letterboxlaw21_SeqsetRow.l0]) ?_
  generalize Chars.last_ 3 gs 0 = T at hg hm ⊢
  generalize run 3 gs 0 = xs at hn hm hp hc ⊢
  refine no (by omega) (bnd (row_ok xs (by omega) (fun x hx => by have := hm x hx; omega)) ?_)
  exact row_l1 gs hb hl xs T (by omega) (by omega) (fun x hx => by have := hm x hx; omega) (cntF gs) hc (T + 4).toNat [] xs 1 (by omega) (by omega) (by omega) rfl (fun x hx => by cases hx) (fun x hx => by have := hm x hx; omega) hp
theorem row_w0 (d : Nat) : ∀ (acc : List Int) (a c : Int) (i : Nat), gs.length - i ≤ d → i ≤ gs.length → acc.length = i → 0 ≤ a → a ≤ 8 * (i : Int) → 0 ≤ c → c ≤ (i : Int) →
    acc ++ run 3 (gs.drop i) a = run 3 gs 0 → Chars.last_ 3 (gs.drop i) a = Chars.last_ 3 gs 0 → c + (if i = 0 then cntF (gs.drop i) else cnt (gs.drop i)) = cntF gs → Ev (fun k => letterboxlaw21_SeqsetRow.l0 k gs acc a c (i : Int)) true := by
  have stop : ∀ (acc : List Int) (a c : Int), acc ++ run 3 (gs.drop gs.length) a = run 3 gs 0 → Chars.last_ 3 (gs.drop gs.length) a = Chars.last_ 3 gs 0 → c + (if gs.length = 0 then cntF (gs.drop gs.length) else cnt (gs.drop gs.length)) = cntF gs → Ev (fun k => letterboxlaw21_SeqsetRow.l0 k gs acc a c (gs.length : Int)) true := by
    intro acc a c h1 h2 h3
    rw [List.drop_eq_nil_of_le (Nat.le_refl _)] at h1 h2 h3
    have h1 : acc = run 3 gs 0 := by simpa [run] using h1
    have h2 : a = Chars.last_ 3 gs 0 := h2
    have h3 : c = cntF gs := by rw [← h3]; split <;> simp [cntF, cnt]
    subst h1 h2 h3
    exact row_end gs hb hl
  induction d with
  | zero =>
    intro acc a c i hd hi _ _ _ _ _ h1 h2 h3
    have e : i = gs.length := by omega
    subst e; exact stop acc a c h1 h2 h3
  | succ d ih =>
    intro acc a c i hd hi ha h0 h8 hc hc' h1 h2 h3
    rcases Nat.lt_or_ge i gs.length with hlt | hge
    · have e1 : wrap64 ((i : Int) + 1) = ((i + 1 : Nat) : Int) := by
        clear h1 h2 h3 ih; rw [w64 (by omega) (by omega)]; omega
      have g' : 1 ≤ gap 3 (rd gs (i : Int)) ∧ gap 3 (rd gs (i : Int)) ≤ 8 := gap_pos 3 (by decide) _ (hb _ (rd_mem gs i hlt))
      refine st (fun k => by rw [letterboxlaw21_SeqsetRow.l0]) ?_
      rw [e1]
      have e2 : wrap64 (a + wrap64 (wrap64 (Go.bits .and .u8 (rd gs (i : Int)) 3) + 1)) = a + gap 3 (rd gs (i : Int)) := by
        show wrap64 (a + gap 3 (rd gs (i : Int))) = _
        clear h1 h2 h3 e1 ih
        generalize gap 3 (rd gs (i : Int)) = q at g' ⊢
        exact w64 (by omega) (by omega)
      have e3 : wrap64 (c + 1) = c + 1 := by
        clear h1 h2 h3 e1 e2 ih g'; exact w64 (by omega) (by omega)
      rw [e2, e3]
      rw [show wrap64 (wrap64 (Go.bits .and .u8 (rd gs (i : Int)) 3) + 1) = gap 3 (rd gs (i : Int)) from rfl]
      rw [drop_rd gs i hlt, run] at h1
      rw [drop_rd gs i hlt, Chars.last_] at h2
      rw [drop_rd gs i hlt, cntF, cnt] at h3
      clear e1 e2 e3
      rw [List.append_cons] at h1
      generalize gap 3 (rd gs (i : Int)) = q at *
      have w : (acc.length : Int) < 17592186044416 ∧ 0 ≤ a + q ∧ a + q ≤ 8 * ((i + 1 : Nat) : Int) ∧ gs.length - (i + 1) ≤ d ∧ (i : Int) < (gs.length : Int) := by
        clear h1 h2 h3 ih stop; omega
      have w' : 0 ≤ c + 1 ∧ c + 1 ≤ ((i + 1 : Nat) : Int) ∧ c ≤ ((i + 1 : Nat) : Int) ∧ acc.length < 17592186044416 := by
        clear h1 h2 h3 ih stop; omega
      have hal : (acc ++ [a + q]).length = i + 1 := by rw [List.length_append, ha]; rfl
      refine yes w.2.2.2.2 (yes (Int.natCast_nonneg i) ?_)
      by_cases hi0 : (i : Int) = 0
      · refine yes hi0 (yes w'.2.2.2 (ih _ _ _ (i + 1) w.2.2.2.1 hlt hal w.2.1 w.2.2.1 w'.1 w'.2.1 h1 h2 ?_))
        rw [if_neg (Nat.succ_ne_zero i)]
        rw [if_pos (by clear h1 h2 h3 ih stop; omega)] at h3
        rw [← h3, Int.add_assoc]
      · rw [if_neg (by clear h1 h2 h3 ih stop; omega)] at h3
        refine no hi0 ?_
        by_cases hq : q > 1
        · refine yes hq (yes w'.2.2.2 (ih _ _ _ (i + 1) w.2.2.2.1 hlt hal w.2.1 w.2.2.1 w'.1 w'.2.1 h1 h2 ?_))
          rw [if_neg (Nat.succ_ne_zero i)]
          rw [if_pos hq] at h3
          rw [← h3, Int.add_assoc]
        · refine no hq (yes w'.2.2.2 (ih _ _ _ (i + 1) w.2.2.2.1 hlt hal w.2.1 w.2.2.1 hc w'.2.2.1 h1 h2 ?_))
          rw [if_neg (Nat.succ_ne_zero i)]
          rw [if_neg hq, Int.zero_add] at h3
          exact h3
    · have e : i = gs.length := by omega
      subst e; exact stop acc a c h1 h2 h3
end
theorem SeqsetRow : letterboxlaw21_SeqsetRow.Pure := by
  intro l1 h0 h1 h2
  have hb := byte_wf h2
  refine Ev.rounds (g := fun k => letterboxlaw21_SeqsetRow.f k l1) ?_
  show Ev (fun k => (letterboxlaw21_awake.f k).bind _) _
  refine bnd awake (yes rfl ?_)
  by_cases hs : (l1.length : Int) > 60
  · exact yes hs (fin rfl)
  · have h := row_w0 l1 hb (by omega) l1.length [] 0 0 0 (by omega) (Nat.zero_le _) rfl (Int.le_refl _) (by omega) (Int.le_refl _) (by omega) (by simp) (by simp) (by simp)
    exact no hs h
end Go.Proofs.Ytimnfkmjdnmdeaa.Pure
