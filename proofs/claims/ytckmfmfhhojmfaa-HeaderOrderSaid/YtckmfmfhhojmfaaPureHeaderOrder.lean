/- Fields of a header stand in order, and don't meet: the law in plain words, proved. -/
import Derived.Test.YtckmfmfhhojmfaaOfC
import Derived.Test.YtckmfmfhhojmfaaOrd1
import Derived.Test.YtckmfmfhhojmfaaTrim
import Derived.Test.YtckmfmfhhojmfaaPx4
set_option linter.unusedVariables false
set_option linter.unusedSimpArgs false
namespace Go.Proofs.Ytckmfmfhhojmfaa.Pure
open Go.RowKit Go.Proofs.Ytckmfmfhhojmfaa.P Go.Proofs.YtckmfmfhhojmfaaW.PrintWords Go.Proofs.YtckmfmfhhojmfaaW.PrintLast Go.Proofs.Ytckmfmfhhojmfaa.Aids Go.Proofs.Ytckmfmfhhojmfaa.Lin Go.Proofs.Ytckmfmfhhojmfaa.Nam Go.Proofs.Ytckmfmfhhojmfaa.Chn Go.Proofs.Ytckmfmfhhojmfaa.Ord Go.Proofs.Ytckmfmfhhojmfaa.Chars
theorem cut_no10 {b : List Int} {x : S40} (h : lin b x) : ∀ c ∈ (b.take x.f1.toNat).drop x.f0.toNat, c ≠ 10 := by
  intro c hc
  obtain ⟨j, hj, hjc⟩ := List.mem_iff_getElem.1 hc
  obtain ⟨h1, h2, h3, h4, h5, h6⟩ := h
  rw [List.length_drop, List.length_take] at hj
  have := h6 (x.f0.toNat + j) (by omega) (by omega)
  rw [← rd_sub b x.f1.toNat x.f0.toNat j (by omega) (by omega), rd_at _ _ (by rw [List.length_drop, List.length_take]; omega), hjc] at this
  exact this
theorem cat_ok (b : List Int) (hb : byte b) : ∀ (ls : List S40) (p q : Int) (a : List Int), lch b p ls q → ∃ t, bd_cat b ls (strOfNums a) = strOfNums (a ++ t) ∧ byte t ∧ (∀ c ∈ t, c ≠ 10) ∧ (t.length : Int) ≤ q - p
  | [], p, q, a, h => by
    have hpq : p ≤ q := h
    refine ⟨[], by rw [List.append_nil]; rfl, byte_nil, ?_, ?_⟩
    · intro c hc
      cases hc
    · rw [List.length_nil]
      omega
  | x :: ls, p, q, a, h => by
    obtain ⟨h1, h2, h3⟩ := h
    obtain ⟨t, ht, hbt, hnt, hlt⟩ := cat_ok b hb ls x.f2 q (a ++ (b.take x.f1.toNat).drop x.f0.toNat) h3
    refine ⟨(b.take x.f1.toNat).drop x.f0.toNat ++ t, ?_, byte_append (byte_drop (byte_take hb _) _) hbt, ?_, ?_⟩
    · show bd_cat b ls (strOfNums a ++ ln_txt b x.f0 x.f1) = _
      rw [txt_of h2, str_append, ht, List.append_assoc]
    · intro c hc
      rcases List.mem_append.1 hc with hc | hc
      · exact cut_no10 h2 c hc
      · exact hnt c hc
    · obtain ⟨l1, l2, l3, l4, l5, _⟩ := h2
      rw [List.length_append, List.length_drop, List.length_take]
      omega
theorem body_ok (b : List Int) (hb : byte b) (hl : b.length ≤ 600) (nm : ByteArray) (x1 x2 x3 : Int) (h0 : 0 ≤ x2) (h1 : x2 ≤ x3) (h2 : x3 ≤ (b.length : Int)) : ∃ t, Ev (fun k => header_Body.f k b nm x1 x2 x3) (strOfNums t) ∧ byte t ∧ (∀ c ∈ t, c ≠ 10) ∧ t.length ≤ 600 := by
  obtain ⟨t, ht, hbt, hnt, hlt⟩ := cat_ok b hb (ln_from b x3.toNat x2.toNat) _ _ [] (from_lch b x3.toNat (by omega) _ x2.toNat (Nat.le_refl _) (by omega))
  have hs : bd_body b x2 x3 = strOfNums t := by
    unfold bd_body bd_lines
    rw [if_pos ⟨h0, h1, h2⟩]
    exact ht
  have htl : t.length ≤ 600 := by omega
  refine ⟨trim t, ?_, trim_byte hbt, ?_, Nat.le_trans (trim_len t) htl⟩
  · unfold header_Body.f
    refine yes (by omega) ?_
    rw [hs]
    exact trimS t (by omega) hbt
  · intro c hc
    unfold trim trimE at hc
    exact hnt c (trimF_sub _ _ (List.mem_reverse.1 (trimF_sub _ _ (List.mem_reverse.1 hc))))
theorem chain_ge {b : List Int} : ∀ {l : List S31} {p q : Int}, chain b p l q → p ≤ q
  | [], p, q, h => h
  | x :: t, p, q, h => by
    have h1 := chain_ge h.2.2
    have h2 := h.2.1.1
    have h3 := h.2.1.2.1
    have h4 := h.1
    omega
theorem chain_sizes {b : List Int} : ∀ {l : List S31} {p q : Int}, chain b p l q → ∀ x ∈ l, x.f0.size ≤ b.length
  | [], p, q, h, x, hx => by cases hx
  | y :: t, p, q, h, x, hx => by
    rcases List.mem_cons.1 hx with rfl | hx
    · exact h.2.1.2.2.2.1
    · exact chain_sizes h.2.2 x hx
theorem drop_31 {l t : List S31} {x : S31} {i : Nat} (h : l.drop i = x :: t) : i < l.length ∧ rd_T31 l (i : Int) = x ∧ l.drop (i + 1) = t := by
  have hl : i < l.length := by
    rcases Nat.lt_or_ge i l.length with h1 | h1
    · exact h1
    · rw [List.drop_eq_nil_of_le h1] at h; cases h
  rw [List.drop_eq_getElem_cons hl] at h
  injection h with h1 h2
  refine ⟨hl, ?_, h2⟩
  unfold rd_T31
  rw [Int.toNat_natCast, List.getD_eq_getElem?_getD, List.getElem?_eq_getElem hl]
  exact h1
theorem ord_l1 (b : List Int) (names : List ByteArray) (l : List S31) (n : Int) (i : Nat) (hi : i < l.length) (hl : l.length ≤ 600) (t : List Int) (hbt : byte t) (hnt : ∀ c ∈ t, c ≠ 10) (htl : t.length ≤ 600)
    (nxt : Ev (fun k => letterboxlaw06_HeaderOrder.l0 k b names l n ((rd_T31 l (i : Int)).f3) ((i + 1 : Nat) : Int)) true) : ∀ (d j : Nat), t.length - j ≤ d → Ev (fun k => letterboxlaw06_HeaderOrder.l1 k b names l n (i : Int) (strOfNums t) (j : Int)) true := by
  have hz : (strOfNums t).size = t.length := strOfNums_size _
  have hw : wrap64 ((i : Int) + 1) = ((i + 1 : Nat) : Int) := by rw [w64 (by omega) (by omega)]; omega
  intro d
  induction d with
  | zero =>
    intro j hj
    refine st (fun k => by rw [letterboxlaw06_HeaderOrder.l1]) ?_
    refine no (by rw [hz]; omega) ?_
    refine yes (by omega) ?_
    refine yes (by omega) ?_
    rw [hw]
    exact nxt
  | succ d ih =>
    intro j hj
    refine st (fun k => by rw [letterboxlaw06_HeaderOrder.l1]) ?_
    by_cases h : j < t.length
    · have hw2 : wrap64 ((j : Int) + 1) = ((j + 1 : Nat) : Int) := by rw [w64 (by omega) (by omega)]; omega
      refine yes (by rw [hz]; omega) ?_
      refine yes (by omega) ?_
      rw [str_bt _ hbt, hw2]
      refine no (hnt _ (rd_mem t j h)) ?_
      exact ih (j + 1) (by omega)
    · refine no (by rw [hz]; omega) ?_
      refine yes (by omega) ?_
      refine yes (by omega) ?_
      rw [hw]
      exact nxt
theorem ord_l0 (b : List Int) (hb : byte b) (hbl : b.length ≤ 600) (names : List ByteArray) (hnl : names.length ≤ 10) (hns : ∀ x ∈ names, x.size ≤ 140737488351232) (l : List S31) (hl : l.length ≤ 600) (hls : ∀ x ∈ l, x.f0.size ≤ b.length) (n : Int) (hn : n ≤ (b.length : Int)) :
    ∀ (d : Nat) (i : Nat) (p : Int), l.length - i ≤ d → 0 ≤ p → chain b p (l.drop i) n → Ev (fun k => letterboxlaw06_HeaderOrder.l0 k b names l n p (i : Int)) true := by
  have hfit : names.all (fun m => fd_fits l m) = true := by
    rw [List.all_eq_true]
    intro m hm
    unfold fd_fits
    rw [Bool.and_eq_true, decide_eq_true_eq, List.all_eq_true]
    refine ⟨by have := hns m hm; omega, fun x hx => ?_⟩
    rw [decide_eq_true_eq]
    have := hls x hx
    omega
  have hsome : ∀ but, header_Some.f b l names but = some (so_all b l names but) := fun but => if_pos ⟨by omega, by omega, by omega, hfit⟩
  have hsome0 : header_Some.f b l ([] : List ByteArray) true = some (so_all b l [] true) := if_pos ⟨by omega, by omega, by simp, rfl⟩
  have hend : ∀ p, p ≤ n → Ev (fun k => (header_Some.f b l names false).bind fun t135 => ((header_Some.f b l names true).bind fun t138 => ((header_Some.f b l ([] : List ByteArray) true).bind fun t141 => (if n ≥ p then (if n ≤ (b.length : Int) then (some ((wrap64 ((t135.length : Int) + (t138.length : Int))) == (wrap64 ((t141.length : Int) + 2)))) else (some false)) else (some false))))) true := by
    intro p hp
    have hsum := so_all_len b l names
    rw [hsome, hsome, hsome0]
    refine bs ?_
    refine bs ?_
    refine bs ?_
    refine yes hp ?_
    refine yes hn ?_
    refine fin ?_
    rw [beq_iff_eq]
    congr 1
    omega
  intro d
  induction d with
  | zero =>
    intro i p h1 h2 h3
    rw [List.drop_eq_nil_of_le (by omega)] at h3
    refine st (fun k => by rw [letterboxlaw06_HeaderOrder.l0]) ?_
    refine no (by omega) ?_
    exact hend p h3
  | succ d ih =>
    intro i p h1 h2 h3
    by_cases hi : i < l.length
    · obtain ⟨x, t, ht⟩ : ∃ x t, l.drop i = x :: t := ⟨_, _, List.drop_eq_getElem_cons hi⟩
      obtain ⟨_, hx, ht'⟩ := drop_31 ht
      rw [ht] at h3
      obtain ⟨h31, h32, h33⟩ := h3
      rw [← ht'] at h33
      have hge := chain_ge h33
      obtain ⟨f1, f2, f3, f4, f5, f6, f7⟩ := h32
      obtain ⟨tb, hb1, hb2, hb3, hb4⟩ := body_ok b hb hbl x.f0 x.f1 x.f2 x.f3 (by omega) f2 (by omega)
      have hw : wrap64 (x.f2 - 1) = x.f2 - 1 := w64 (by omega) (by omega)
      refine st (fun k => by rw [letterboxlaw06_HeaderOrder.l0]) ?_
      rw [hx, hw, f7]
      refine yes (by omega) ?_
      refine yes (by omega) ?_
      refine no (by omega) ?_
      refine no (by omega) ?_
      refine no (by omega) ?_
      refine no (by omega) ?_
      refine no ?_ ?_
      · intro h
        have hd : x.f0.data.toList = [] := by rw [← ByteArray.toList_eq]; exact h
        have : x.f0.data.size = 0 := by rw [← Array.length_toList, hd]; rfl
        have : x.f0.size = 0 := this
        omega
      refine yes (by omega) ?_
      refine yes (by omega) ?_
      refine st (fun k => by rw [letterboxlaw06_HeaderOrder.j2]) ?_
      refine no (by decide) ?_
      refine yes (by omega) ?_
      refine yes (by omega) ?_
      rw [hx]
      refine bnd hb1 ?_
      refine ord_l1 b names l n i hi hl tb hb2 hb3 hb4 ?_ _ 0 (Nat.le_refl _)
      rw [hx]
      exact ih (i + 1) x.f3 (by omega) (by omega) h33
    · rw [List.drop_eq_nil_of_le (by omega)] at h3
      refine st (fun k => by rw [letterboxlaw06_HeaderOrder.l0]) ?_
      refine no (by omega) ?_
      exact hend p h3
theorem HeaderOrder : letterboxlaw06_HeaderOrder.Pure := by
  intro b names _ _ hw hn
  have hb := byte_wf hw
  refine Ev.rounds (g := fun k => letterboxlaw06_HeaderOrder.f k b names) ?_
  show Ev (fun k => (letterboxlaw06_awake.f).bind _) _
  refine bs ?_
  refine yes rfl ?_
  by_cases h : (b.length : Int) > 600
  · refine yes h ?_
    refine st (fun k => by rw [letterboxlaw06_HeaderOrder.j0]) ?_
    exact yes rfl (fin rfl)
  · refine no h ?_
    refine st (fun k => by rw [letterboxlaw06_HeaderOrder.j0]) ?_
    by_cases h10 : (names.length : Int) > 10
    · exact yes (decide_eq_true h10) (fin rfl)
    · refine no (by rw [decide_eq_false h10]; decide) ?_
      obtain ⟨l, n, ho, hl, hc, hn1, hn0⟩ := of_ok b hb (by omega)
      refine bnd ho ?_
      exact ord_l0 b hb (by omega) names (by omega) hn.2.2 l hl (chain_sizes hc) n hn1 600 0 0 (by omega) (Int.le_refl _) hc
end Go.Proofs.Ytckmfmfhhojmfaa.Pure
