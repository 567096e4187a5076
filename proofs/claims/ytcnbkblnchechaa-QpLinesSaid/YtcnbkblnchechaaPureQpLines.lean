/- The law QpLines holds of any rows of bytes and ends: lines of printed bytes stay as they are, but for blanks at their ends. No condition. -/
import Derived.Test.YtcnbkblnchechaaEnc
import Derived.Test.YtcnbkblnchechaaPx9
set_option linter.unusedVariables false
set_option linter.unusedSimpArgs false
namespace Go.Proofs.Ytcnbkblnchechaa.Pure
open Go.RowKit Go.Proofs.Ytcnbkblnchechaa.P Go.Proofs.YtcnbkblnchechaaW.PrintWords Go.Proofs.YtcnbkblnchechaaW.PrintLast Go.Proofs.Ytcnbkblnchechaa.Aids Go.Proofs.Ytcnbkblnchechaa.Qp

def good (t : List Int) : Prop := ∀ c ∈ t, 33 ≤ c ∧ c ≤ 126 ∧ c ≠ 61
theorem readS_good (t : List Int) (h : good t) : readS t = some t := by
  induction t with
  | nil => exact readS_nil
  | cons c t ih =>
    have hc := h c List.mem_cons_self
    rw [readS_plain _ hc.2.2 (Or.inr (Or.inr ⟨hc.1, hc.2.1⟩)), ih (fun x hx => h x (List.mem_cons_of_mem _ hx))]; rfl
theorem good_end {t : List Int} (h : good t) : t = [] ∨ ∃ m z, t = m ++ [z] ∧ z ≠ 61 ∧ 33 ≤ z ∧ z ≤ 126 := by
  rcases snoc_or t with rfl | ⟨m, c, rfl⟩
  · exact .inl rfl
  · have hc := h c (by simp)
    exact .inr ⟨m, c, rfl, hc.2.2, hc.1, hc.2.1⟩
def bl (v : Bool) : List Int := if v then [32, 9] else []
def cr (v : Bool) : List Int := if v then [13] else []
theorem line_dec (t : List Int) (h : good t) (s c : Bool) (X : List Int) : decS (t ++ bl s ++ cr c ++ 10 :: X) = (decS X).map fun o => t ++ cr c ++ [10] ++ o := by
  have h10 : ∀ x ∈ t ++ bl s ++ cr c, x ≠ 10 := by
    intro x hx
    simp only [List.mem_append] at hx
    rcases hx with (hx | hx) | hx
    · have := h x hx; omega
    · cases s <;> simp [bl] at hx; omega
    · cases c <;> simp [cr] at hx; omega
  have ce := clean_end (good_end h)
  have ht : trimR (t ++ bl s) = t := by
    cases s
    · simp only [bl, Bool.false_eq_true, if_false, List.append_nil]; exact (ce []).1
    · show trimR (t ++ [32, 9]) = t
      rw [show t ++ [32, 9] = t ++ [32] ++ [9] by simp, trimR_snoc, if_pos (by decide), trimR_snoc, if_pos (by decide)]; exact (ce []).1
  have hu : uncr (t ++ bl s ++ cr c) = t ++ bl s ∧ crs (t ++ bl s ++ cr c) = cr c := by
    cases c
    · cases s
      · simp only [bl, cr, Bool.false_eq_true, if_false, List.append_nil]; exact ⟨(ce []).2.1, (ce []).2.2.1⟩
      · show uncr (t ++ [32, 9] ++ []) = t ++ [32, 9] ∧ crs (t ++ [32, 9] ++ []) = []
        rw [List.append_nil, show t ++ [32, 9] = t ++ [32] ++ [9] by simp, uncr_snoc, crs_snoc]; simp
    · show uncr (t ++ bl s ++ [13]) = t ++ bl s ∧ crs (t ++ bl s ++ [13]) = [13]
      rw [uncr_snoc, crs_snoc]; simp
  rw [decS_lf _ _ h10, hu.1, hu.2, ht, (ce _).2.2.2, readS_good t h]
  cases decS X <;> simp
def D (acc want : List Int) : Prop := ∀ X, decS (acc ++ X) = (decS X).map fun o => want ++ o
theorem D_line {acc want : List Int} (h : D acc want) (t : List Int) (ht : good t) (s c : Bool) : D (acc ++ t ++ bl s ++ cr c ++ [10]) (want ++ t ++ cr c ++ [10]) := by
  intro X
  rw [show acc ++ t ++ bl s ++ cr c ++ [10] ++ X = acc ++ (t ++ bl s ++ cr c ++ 10 :: X) by simp, h, line_dec t ht]
  cases decS X <;> simp
theorem ch_range (x : Int) (h0 : 0 ≤ x) (h1 : x ≤ 255) : (33 + Int.tmod x 94) % 256 = 33 + x % 94 ∧ 33 ≤ 33 + x % 94 ∧ 33 + x % 94 ≤ 126 := by
  rw [tmod_pos h0]; omega
section
variable (L : List (List Int)) (ends : List Int)
theorem lines_l1 (hL : ∀ x ∈ L, byte x) (i : Nat) (hi : i < L.length) (hL10 : L.length ≤ 10) (he : L.length ≤ ends.length) (h40 : (rd_L1 L (i : Int)).length ≤ 40) (acc want : List Int) (R : Bool) (ha : acc.length ≤ 100 * i) (hw : want.length ≤ 100 * i)
    (h : ∀ t s c, good t → t.length ≤ 40 → Ev (fun k => letterboxlaw03_QpLines.l0 k L ends (acc ++ t ++ bl s ++ cr c ++ [10]) (strOfNums (want ++ t ++ cr c ++ [10])) ((i + 1 : Nat) : Int)) R) (d : Nat) :
    ∀ (j : Nat) (t : List Int), (rd_L1 L (i : Int)).length - j ≤ d → t.length = j → j ≤ (rd_L1 L (i : Int)).length → good t → Ev (fun k => letterboxlaw03_QpLines.l1 k L ends (acc ++ t) (strOfNums (want ++ t)) (i : Int) (j : Int)) R := by
  have hmem : rd_L1 L (i : Int) ∈ L := by
    unfold rd_L1
    rw [Int.toNat_natCast, List.getD_eq_getElem?_getD, List.getElem?_eq_getElem hi]; exact List.getElem_mem hi
  have hbyte := hL _ hmem
  have e1 : wrap64 ((i : Int) + 1) = ((i + 1 : Nat) : Int) := by rw [w64 (by omega) (by omega)]; omega
  have stop : ∀ (j : Nat) (t : List Int), t.length = j → j = (rd_L1 L (i : Int)).length → good t → Ev (fun k => letterboxlaw03_QpLines.l1 k L ends (acc ++ t) (strOfNums (want ++ t)) (i : Int) (j : Int)) R := by
    intro j t htj hj ht
    refine st (fun k => by rw [letterboxlaw03_QpLines.l1]) ?_
    simp only [e1, show (⟨#[13]⟩ : ByteArray) = strOfNums [13] from rfl, show (⟨#[10]⟩ : ByteArray) = strOfNums [10] from rfl, str_append, strOfNums_size]
    refine yes (by omega) (yes (by omega) (no (by omega) (yes (by omega) ?_)))
    by_cases b1 : Go.bits .and .u8 (rd ends (i : Int)) 1 = 1
    · refine yes b1 (bs (yes (by simp; omega) (bs ?_)))
      by_cases b2 : Go.bits .and .u8 (rd ends (i : Int)) 2 = 2
      · refine yes b2 (yes (by simp; omega) (bs (yes (by simp; omega) (yes (by simp; omega) (yes (by simp; omega) ?_)))))
        have := h t true true ht (by omega)
        simpa [bl, cr] using this
      · refine no b2 (yes (by simp; omega) (yes (by simp; omega) ?_))
        have := h t true false ht (by omega)
        simpa [bl, cr] using this
    · refine no b1 ?_
      by_cases b2 : Go.bits .and .u8 (rd ends (i : Int)) 2 = 2
      · refine yes b2 (yes (by simp; omega) (bs (yes (by simp; omega) (yes (by simp; omega) (yes (by simp; omega) ?_)))))
        have := h t false true ht (by omega)
        simpa [bl, cr] using this
      · refine no b2 (yes (by simp; omega) (yes (by simp; omega) ?_))
        have := h t false false ht (by omega)
        simpa [bl, cr] using this
  induction d with
  | zero => intro j t hd htj hj ht; exact stop j t htj (by omega) ht
  | succ d ih =>
    intro j t hd htj hj ht
    by_cases hlt : j < (rd_L1 L (i : Int)).length
    · have hx := hbyte _ (rd_mem _ j hlt)
      have hr := ch_range _ hx.1 hx.2
      refine st (fun k => by rw [letterboxlaw03_QpLines.l1]) ?_
      refine yes (by omega) (yes (by omega) (yes (by omega) (yes (by omega) ?_)))
      simp only [hr.1, w64 (x := (j : Int) + 1) (by omega) (by omega)]
      have go : ∀ c : Int, (33 ≤ c ∧ c ≤ 126 ∧ c ≠ 61) → Ev (fun k => letterboxlaw03_QpLines.l1 k L ends ((acc ++ t) ++ [c]) (strOfNums (want ++ t) ++ strOfNums [c]) (i : Int) ((j : Int) + 1)) R := by
        intro c hc
        rw [str_append, List.append_assoc, List.append_assoc]
        exact ih (j + 1) (t ++ [c]) (by omega) (by simp; omega) (by omega) (fun x hx => by
          rcases List.mem_append.1 hx with hx | hx
          · exact ht x hx
          · rw [List.mem_singleton.1 hx]; exact hc)
      by_cases h61 : 33 + rd (rd_L1 L (i : Int)) (j : Int) % 94 = 61
      · exact yes h61 (yes (by simp; omega) (bs (yes (by rw [strOfNums_size, strOfNums_size]; simp; omega) (go 45 (by omega)))))
      · exact no h61 (yes (by simp; omega) (bs (yes (by rw [strOfNums_size, strOfNums_size]; simp; omega) (go _ ⟨hr.2.1, hr.2.2, h61⟩))))
    · exact stop j t htj (by omega) ht
theorem lines_l0 (hL : ∀ x ∈ L, byte x) (hL10 : L.length ≤ 10) (he : L.length ≤ ends.length) (d : Nat) : ∀ (i : Nat) (acc want : List Int), L.length - i ≤ d → i ≤ L.length → acc.length ≤ 100 * i → want.length ≤ 100 * i → byte acc → D acc want →
    Ev (fun k => letterboxlaw03_QpLines.l0 k L ends acc (strOfNums want) (i : Int)) true := by
  have stop : ∀ (i : Nat) (acc want : List Int), L.length = i → acc.length ≤ 100 * i → byte acc → D acc want → Ev (fun k => letterboxlaw03_QpLines.l0 k L ends acc (strOfNums want) (i : Int)) true := by
    intro i acc want hi ha hb hD
    refine st (fun k => by rw [letterboxlaw03_QpLines.l0]) ?_
    refine no (by omega) (bnd (dec_eq acc (by omega) hb) ?_)
    have := hD []
    rw [List.append_nil, decS_nil] at this
    rw [this]
    exact yes rfl (fin (by simp [told]))
  induction d with
  | zero => intro i acc want hd hi ha hw hb hD; exact stop i acc want (by omega) ha hb hD
  | succ d ih =>
    intro i acc want hd hi ha hw hb hD
    by_cases hlt : i < L.length
    · refine st (fun k => by rw [letterboxlaw03_QpLines.l0]) ?_
      refine yes (by omega) (yes (by omega) ?_)
      by_cases h40 : ((rd_L1 L (i : Int)).length : Int) > 40
      · exact yes h40 (fin rfl)
      · refine no h40 ?_
        have := lines_l1 L ends hL i hlt hL10 he (by omega) acc want true ha hw (fun t s c ht ht40 => by
          have hbl : (bl s).length ≤ 2 := by cases s <;> simp [bl]
          have hcr : (cr c).length ≤ 1 := by cases c <;> simp [cr]
          refine ih (i + 1) _ _ (by omega) (by omega) (by simp only [List.length_append, List.length_singleton]; omega) (by simp only [List.length_append, List.length_singleton]; omega) ?_ (D_line hD t ht s c)
          intro x hx
          simp only [List.mem_append, List.mem_singleton] at hx
          rcases hx with (((hx | hx) | hx) | hx) | hx
          · exact hb x hx
          · have := ht x hx; omega
          · cases s <;> simp [bl] at hx; omega
          · cases c <;> simp [cr] at hx; omega
          · omega) 40 0 [] (by omega) rfl (by omega) (fun x hx => by cases hx)
        rw [List.append_nil, List.append_nil] at this
        exact this
    · exact stop i acc want (by omega) ha hb hD
end
theorem QpLines : letterboxlaw03_QpLines.Pure := by
  intro L ends hL _ _ _
  have hb : ∀ x ∈ L, byte x := fun x hx y hy => wf_u8 ((hL.2.2 x hx).2.2 y hy)
  refine Ev.rounds (g := fun k => letterboxlaw03_QpLines.f k L ends) ?_
  show Ev (fun k => (letterboxlaw03_awake.f).bind _) _
  refine bs ?_
  refine yes rfl ?_
  have j0 : ∀ v, (v = false → L.length ≤ 10 ∧ L.length ≤ ends.length) → Ev (fun k => letterboxlaw03_QpLines.j0 k L ends v) true := by
    intro v hv
    refine st (fun k => by rw [letterboxlaw03_QpLines.j0]) ?_
    cases v with
    | true => exact yes rfl (fin rfl)
    | false =>
      have hl := hv rfl
      refine no (by simp) ?_
      exact lines_l0 L ends hb hl.1 hl.2 L.length 0 [] [] (by omega) (by omega) (by simp) (by simp) (fun x hx => by cases hx) (fun X => by simp)
  by_cases h10 : (L.length : Int) > 10
  · exact yes h10 (j0 true (fun h => by cases h))
  · exact no h10 (j0 _ (fun h => by have := of_decide_eq_false h; omega))
end Go.Proofs.Ytcnbkblnchechaa.Pure
