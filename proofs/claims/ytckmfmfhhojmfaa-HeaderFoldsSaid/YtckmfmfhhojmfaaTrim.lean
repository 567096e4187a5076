/- A text without blanks at its ends: what both printed functions tell. -/
import Derived.Test.YtckmfmfhhojmfaaEvs
import Derived.Test.YtckmfmfhhojmfaaPx1
set_option linter.unusedVariables false
set_option linter.unusedSimpArgs false
set_option linter.unusedSectionVars false
namespace Go.Proofs.Ytckmfmfhhojmfaa.Chars
open Go.RowKit Go.Proofs.Ytckmfmfhhojmfaa.P Go.Proofs.YtckmfmfhhojmfaaW.PrintWords Go.Proofs.YtckmfmfhhojmfaaW.PrintLast Go.Proofs.Ytckmfmfhhojmfaa.Aids
def isBl (c : Int) : Prop := c = 32 ∨ c = 9
instance (c : Int) : Decidable (isBl c) := inferInstanceAs (Decidable (_ ∨ _))
def trimF : List Int → List Int
  | [] => []
  | c :: t => if isBl c then trimF t else c :: t
def trimE (l : List Int) : List Int := (trimF l.reverse).reverse
def trim (l : List Int) : List Int := trimE (trimF l)
theorem trimF_blanks {f : List Int} (h : ∀ c ∈ f, isBl c) (s : List Int) : trimF (f ++ s) = trimF s := by
  induction f with
  | nil => rfl
  | cons c t ih => rw [List.cons_append, trimF, if_pos (h c List.mem_cons_self)]; exact ih (fun x hx => h x (List.mem_cons_of_mem _ hx))
theorem trimF_all {f : List Int} (h : ∀ c ∈ f, isBl c) : trimF f = [] := by
  have := trimF_blanks h []
  rwa [List.append_nil] at this
theorem trimF_head {s t : List Int} {c : Int} (h : trimF s = c :: t) : ¬ isBl c := by
  induction s with
  | nil => cases h
  | cons d r ih =>
    rw [trimF] at h
    by_cases hb : isBl d
    · rw [if_pos hb] at h; exact ih h
    · rw [if_neg hb] at h; injection h with h1 h2; rw [← h1]; exact hb
theorem trimF_none {s : List Int} (h : trimF s = []) : ∀ c ∈ s, isBl c := by
  induction s with
  | nil => intro c hc; cases hc
  | cons d r ih =>
    rw [trimF] at h
    by_cases hb : isBl d
    · rw [if_pos hb] at h; intro c hc
      rcases List.mem_cons.1 hc with rfl | hc
      · exact hb
      · exact ih h c hc
    · rw [if_neg hb] at h; cases h
theorem trimF_more {s : List Int} (h : trimF s ≠ []) (m : List Int) : trimF (s ++ m) = trimF s ++ m := by
  induction s with
  | nil => exact absurd rfl h
  | cons d r ih =>
    rw [trimF] at h
    rw [List.cons_append, trimF, trimF]
    by_cases hb : isBl d
    · rw [if_pos hb] at h; rw [if_pos hb, if_pos hb]; exact ih h
    · rw [if_neg hb, if_neg hb]; rfl
theorem trimF_stay {c : Int} (t : List Int) (h : ¬ isBl c) : trimF (c :: t) = c :: t := by rw [trimF, if_neg h]
theorem trimF_idem (s : List Int) : trimF (trimF s) = trimF s := by
  cases h : trimF s with
  | nil => rfl
  | cons c t => exact trimF_stay t (trimF_head h)
theorem trimE_nil : trimE [] = [] := rfl
theorem trimE_snoc (m : List Int) (c : Int) : trimE (m ++ [c]) = if isBl c then trimE m else m ++ [c] := by
  unfold trimE
  rw [List.reverse_append]
  simp only [List.reverse_cons, List.reverse_nil, List.nil_append, List.cons_append]
  rw [trimF]
  by_cases hb : isBl c
  · rw [if_pos hb, if_pos hb]
  · rw [if_neg hb, if_neg hb]; simp
theorem trimE_blanks {f : List Int} (h : ∀ c ∈ f, isBl c) (m : List Int) : trimE (m ++ f) = trimE m := by
  unfold trimE
  rw [List.reverse_append, trimF_blanks (fun c hc => h c (List.mem_reverse.1 hc))]
theorem trimE_idem (s : List Int) : trimE (trimE s) = trimE s := by
  unfold trimE; rw [List.reverse_reverse, trimF_idem]
theorem trimE_cons {c : Int} (t : List Int) (h : ¬ isBl c) : trimE (c :: t) = c :: trimE t := by
  unfold trimE
  rw [List.reverse_cons]
  by_cases e : trimF t.reverse = []
  · rw [e, trimF_blanks (trimF_none e), trimF_stay _ h]; rfl
  · rw [trimF_more e]; simp
theorem trimE_last {s m : List Int} {c : Int} (h : trimE s = m ++ [c]) : ¬ isBl c := by
  unfold trimE at h
  have : trimF s.reverse = c :: m.reverse := by rw [← List.reverse_reverse (trimF s.reverse), h]; simp
  exact trimF_head this
theorem trim_head {s t : List Int} {c : Int} (h : trim s = c :: t) : ¬ isBl c := by
  unfold trim at h
  cases e : trimF s with
  | nil => rw [e] at h; cases h
  | cons d r =>
    have hd := trimF_head e
    rw [e, trimE_cons r hd] at h
    injection h with h1 h2
    rw [← h1]; exact hd
theorem trim_last {s m : List Int} {c : Int} (h : trim s = m ++ [c]) : ¬ isBl c := trimE_last h
theorem trim_front {f : List Int} (h : ∀ c ∈ f, isBl c) (s : List Int) : trim (f ++ s) = trim s := by unfold trim; rw [trimF_blanks h]
theorem trim_back {f : List Int} (h : ∀ c ∈ f, isBl c) (s : List Int) : trim (s ++ f) = trim s := by
  unfold trim
  by_cases e : trimF s = []
  · rw [e, trimF_blanks (trimF_none e), trimF_all h]
  · rw [trimF_more e, trimE_blanks h]
theorem trim_all {f : List Int} (h : ∀ c ∈ f, isBl c) : trim f = [] := by unfold trim; rw [trimF_all h]; rfl
theorem trim_idem (s : List Int) : trim (trim s) = trim s := by
  cases e : trim s with
  | nil => rfl
  | cons c t =>
    have hc := trim_head e
    show trimE (trimF (c :: t)) = _
    rw [trimF_stay t hc, ← e]
    exact trimE_idem _
theorem trimF_sub (s : List Int) : ∀ c ∈ trimF s, c ∈ s := by
  induction s with
  | nil => intro c hc; exact hc
  | cons d r ih =>
    rw [trimF]; intro c hc
    by_cases hb : isBl d
    · rw [if_pos hb] at hc; exact List.mem_cons_of_mem _ (ih c hc)
    · rw [if_neg hb] at hc; exact hc
theorem trimF_len (s : List Int) : (trimF s).length ≤ s.length := by
  induction s with
  | nil => exact Nat.le_refl _
  | cons d r ih =>
    rw [trimF]
    by_cases hb : isBl d
    · rw [if_pos hb]; simp only [List.length_cons]; omega
    · rw [if_neg hb]; exact Nat.le_refl _
theorem trim_byte {s : List Int} (h : byte s) : byte (trim s) := fun c hc => by
  refine h c ?_
  unfold trim trimE at hc
  exact trimF_sub _ _ (List.mem_reverse.1 (trimF_sub _ _ (List.mem_reverse.1 hc)))
theorem trim_len (s : List Int) : (trim s).length ≤ s.length := by
  unfold trim trimE
  rw [List.length_reverse]
  refine Nat.le_trans (trimF_len _) ?_
  rw [List.length_reverse]; exact trimF_len s
theorem blank_f (c : Int) : chars_Blank.f c = some (decide (isBl c)) := by
  unfold chars_Blank.f isBl
  by_cases h : c = 32
  · simp [h]
  · simp only [h, if_false, false_or]; rfl
theorem ex_tail (c : Int) (t : List Int) : (strOfNums (c :: t)).extract 1 (strOfNums (c :: t)).size = strOfNums t := by
  rw [str_extract, strOfNums_size, List.take_of_length_le (Nat.le_refl _)]; rfl
theorem ex_init (m : List Int) (c : Int) : (strOfNums (m ++ [c])).extract 0 m.length = strOfNums m := by
  rw [str_extract, List.take_left', List.drop_zero]; rfl
theorem trim_l1 (d : Nat) : ∀ l : List Int, l.length ≤ d → d ≤ 1000000 → byte l → Ev (fun k => chars_Trim.l1 k (strOfNums l)) (strOfNums (trimE l)) := by
  induction d with
  | zero =>
    intro l hl _ hb
    have : l = [] := List.length_eq_zero_iff.1 (by omega)
    subst this
    refine st (fun k => by rw [chars_Trim.l1]) ?_
    exact no (by simp [strOfNums_size]) (fin rfl)
  | succ d ih =>
    intro l hl h9 hb
    refine st (fun k => by rw [chars_Trim.l1]) ?_
    rcases List.eq_nil_or_concat l with rfl | ⟨m, c, rfl⟩
    · exact no (by simp [strOfNums_size]) (fin rfl)
    · rw [List.concat_eq_append] at hl hb ⊢
      have hlen : (strOfNums (m ++ [c])).size = m.length + 1 := by rw [strOfNums_size, List.length_append]; rfl
      have hm1 : m.length + 1 ≤ d + 1 := by simpa using hl
      have e1 : wrap64 (((strOfNums (m ++ [c])).size : Int) - 1) = (m.length : Int) := by rw [hlen, w64 (by omega) (by omega)]; omega
      rw [e1]
      simp only [hlen, blank_f, str_bt _ hb, rd_last]
      clear e1
      refine yes (by omega) (yes (by omega) (yes (by omega) (bs ?_)))
      rw [trimE_snoc]
      by_cases hc : isBl c
      · rw [if_pos hc]
        refine yes (decide_eq_true hc) (yes (by omega) ?_)
        rw [Int.toNat_natCast, ex_init]
        exact ih m (by omega) (by omega) (byte_left hb)
      · rw [if_neg hc]
        exact no (by simpa using hc) (fin rfl)
theorem trim_l0 (l : List Int) : l.length ≤ 1000000 → byte l → Ev (fun k => chars_Trim.l0 k (strOfNums l)) (strOfNums (trim l)) := by
  induction l with
  | nil =>
    intro h9 hb
    refine st (fun k => by rw [chars_Trim.l0]) ?_
    refine no (by simp [strOfNums_size]) (st (fun k => by rw [chars_Trim.j1]) ?_)
    exact trim_l1 0 [] (Nat.le_refl _) (by omega) hb
  | cons c t ih =>
    intro h9 hb
    have hlen : (strOfNums (c :: t)).size = t.length + 1 := by rw [strOfNums_size]; rfl
    have h9' : t.length + 1 ≤ 1000000 := h9
    refine st (fun k => by rw [chars_Trim.l0]) ?_
    simp only [ex_tail]
    simp only [hlen, blank_f, str_bt _ hb]
    refine yes (by omega) (yes (by omega) (bs ?_))
    have hr : rd (c :: t) 0 = c := rfl
    rw [hr]
    unfold trim
    by_cases hc : isBl c
    · rw [trimF, if_pos hc]
      exact yes (decide_eq_true hc) (yes (by omega) (ih (by omega) (fun x hx => hb x (List.mem_cons_of_mem _ hx))))
    · rw [trimF, if_neg hc]
      exact no (by simpa using hc) (st (fun k => by rw [chars_Trim.j1]) (trim_l1 _ _ h9 (Nat.le_refl _) hb))
theorem trimS (l : List Int) (h : l.length ≤ 1000000) (hb : byte l) : Ev (fun k => chars_Trim.f k (strOfNums l)) (strOfNums (trim l)) := trim_l0 l h hb
end Go.Proofs.Ytckmfmfhhojmfaa.Chars
