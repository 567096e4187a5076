/- The fields of a header stand in order: header.Of in plain words. -/
import Derived.Test.YtckmfmfhhojmfaaLines
import Derived.Test.YtckmfmfhhojmfaaNamed
import Derived.Test.YtckmfmfhhojmfaaChain
import Derived.Test.YtckmfmfhhojmfaaPx2
set_option linter.unusedVariables false
set_option linter.unusedSimpArgs false
namespace Go.Proofs.Ytckmfmfhhojmfaa.Chn
open Go.RowKit Go.Proofs.Ytckmfmfhhojmfaa.P Go.Proofs.YtckmfmfhhojmfaaW.PrintWords Go.Proofs.YtckmfmfhhojmfaaW.PrintLast Go.Proofs.YtckmfmfhhojmfaaW.PrintMore Go.Proofs.Ytckmfmfhhojmfaa.Aids Go.Proofs.Ytckmfmfhhojmfaa.Lin Go.Proofs.Ytckmfmfhhojmfaa.Nam
/-- a line of the bytes b -/
def lin (b : List Int) (x : S40) : Prop := 0 ≤ x.f0 ∧ x.f0 ≤ x.f1 ∧ x.f1 ≤ x.f2 ∧ x.f2 ≤ (b.length : Int) ∧ x.f0 < x.f2 ∧ ∀ j : Nat, x.f0 ≤ (j : Int) → (j : Int) < x.f1 → rd b (j : Int) ≠ 10
/-- lines one behind the other, from p up to q -/
def lch (b : List Int) : Int → List S40 → Int → Prop
  | p, [], q => p ≤ q
  | p, x :: t, q => p ≤ x.f0 ∧ lin b x ∧ lch b x.f2 t q
theorem lch_le {b : List Int} : ∀ {l : List S40} {p q q' : Int}, lch b p l q → q ≤ q' → lch b p l q'
  | [], p, q, q', h, h' => Int.le_trans h h'
  | x :: t, p, q, q', h, h' => ⟨h.1, h.2.1, lch_le h.2.2 h'⟩
theorem lch_ge {b : List Int} : ∀ {l : List S40} {p q : Int}, lch b p l q → p ≤ q
  | [], p, q, h => h
  | x :: t, p, q, h => by
    have h1 := lch_ge h.2.2
    have h2 := h.2.1.2.2.2.2.1
    have h3 := h.1
    omega
theorem lch_last {b : List Int} : ∀ {l : List S40} {p q : Int} {i : Nat}, lch b p l q → l.length = i + 1 → lch b p l (rd_T40 l (i : Int)).f2
  | [], p, q, i, h, hi => by simp at hi
  | x :: [], p, q, i, h, hi => by
    have : i = 0 := by simp at hi; omega
    subst this
    exact ⟨h.1, h.2.1, Int.le_refl _⟩
  | x :: y :: t, p, q, 0, h, hi => by simp at hi
  | x :: y :: t, p, q, i + 1, h, hi => ⟨h.1, h.2.1, lch_last (i := i) h.2.2 (by simpa using hi)⟩
theorem lch_take {b : List Int} : ∀ {l : List S40} {p q : Int} {i : Nat}, lch b p l q → i < l.length → lch b p (l.take i) (rd_T40 l (i : Int)).f2 ∧ (rd_T40 l (i : Int)).f2 ≤ q
  | [], p, q, i, h, hi => by simp at hi
  | x :: t, p, q, 0, h, hi => by
    have h1 := h.1
    have h2 := h.2.1.2.2.2.2.1
    exact ⟨show p ≤ x.f2 by omega, lch_ge h.2.2⟩
  | x :: t, p, q, i + 1, h, hi => by
    have h1 := lch_take (i := i) h.2.2 (by simpa using hi)
    exact ⟨⟨h.1, h.2.1, h1.1⟩, h1.2⟩
theorem nx_lin (b : List Int) (en at_ : Nat) (h : at_ < en) (he : en ≤ b.length) : (ln_nx b en at_).f0 = (at_ : Int) ∧ lin b (ln_nx b en at_) := by
  obtain ⟨h1, h2, h3⟩ := ln_nx_lt b en at_ h
  rcases nx_spec b en at_ h he with ⟨m, c1, c2, c3, c4, c5, c6⟩ | ⟨c1, c2⟩
  · refine ⟨c4, by omega, ?_, ?_, by omega, by omega, ?_⟩
    · rw [c6, c4]
      split <;> omega
    · rw [c6, c5]
      split <;> omega
    · intro j hj1 hj2
      rw [c4] at hj1
      refine c3 j (by omega) ?_
      rw [c6] at hj2
      split at hj2 <;> omega
  · rw [c2]
    refine ⟨rfl, Int.natCast_nonneg _, show (at_ : Int) ≤ (en : Int) by omega, Int.le_refl _, show (en : Int) ≤ (b.length : Int) by omega, show (at_ : Int) < (en : Int) by omega, ?_⟩
    intro j hj1 hj2
    exact c1 j (by have : (at_ : Int) ≤ (j : Int) := hj1; omega) (by have : (j : Int) < (en : Int) := hj2; omega)
theorem from_lch (b : List Int) (en : Nat) (he : en ≤ b.length) : ∀ d at_ : Nat, en - at_ ≤ d → at_ ≤ en → lch b (at_ : Int) (ln_from b en at_) (en : Int) := by
  intro d
  induction d with
  | zero =>
    intro at_ h h'
    rw [ln_from_end b en at_ (by omega)]
    show (at_ : Int) ≤ (en : Int)
    omega
  | succ d ih =>
    intro at_ h h'
    by_cases hl : at_ < en
    · rw [ln_from_step b en at_ hl]
      obtain ⟨h1, h2, h3⟩ := ln_nx_lt b en at_ hl
      obtain ⟨c1, c2⟩ := nx_lin b en at_ hl he
      refine ⟨by rw [c1]; exact Int.le_refl _, c2, ?_⟩
      have := ih (ln_nx b en at_).f2.toNat (by omega) h2
      rw [← h3] at this
      exact this
    · rw [ln_from_end b en at_ hl]
      show (at_ : Int) ≤ (en : Int)
      omega
theorem txt_of {b : List Int} {x : S40} (h : lin b x) : ln_txt b x.f0 x.f1 = strOfNums ((b.take x.f1.toNat).drop x.f0.toNat) := by
  obtain ⟨h1, h2, h3, h4, h5, _⟩ := h
  exact if_pos ⟨h1, h2, by omega⟩
theorem txt_size {b : List Int} {x : S40} (h : lin b x) : (ln_txt b x.f0 x.f1).size = x.f1.toNat - x.f0.toNat := by
  rw [txt_of h, strOfNums_size, List.length_drop, List.length_take]
  obtain ⟨h1, h2, h3, h4, h5, _⟩ := h
  omega
theorem goes_ok (s : ByteArray) : ∃ r, header_goes.f s = some r := by
  unfold header_goes.f
  by_cases h : s.toList = ([] : List UInt8)
  · exact ⟨_, if_pos h⟩
  · rw [if_neg h]
    have hs : 0 < (s.size : Int) := by
      rcases Nat.eq_zero_or_pos s.size with h0 | h0
      · exfalso
        apply h
        rw [ByteArray.toList_eq]
        have : s.data.size = 0 := h0
        exact List.length_eq_zero_iff.1 (by rw [Array.length_toList]; exact this)
      · omega
    rw [if_pos hs]
    unfold chars_Blank.f
    by_cases h : bt s 0 = 32
    · exact ⟨true, by rw [if_pos h]; rfl⟩
    · exact ⟨_, by rw [if_neg h]; rfl⟩
theorem set_last (l : List S31) (x y : S31) : (l ++ [x]).set l.length y = l ++ [y] := by
  induction l with
  | nil => rfl
  | cons a t ih => simp
theorem rd_last31 (l : List S31) (x : S31) : rd_T31 (l ++ [x]) (l.length : Int) = x := by
  unfold rd_T31
  rw [Int.toNat_natCast]
  simp
theorem of_l0 (b : List Int) (hb : byte b) (hl : b.length ≤ 600) (x7 : Int) : ∀ (d : Nat) (x44 : List S40) (i : Nat) (x9 : List S31) (on : Bool) (p q : Int), x44.length - i ≤ d → i ≤ x44.length → x44.length ≤ 600 → x9.length ≤ i → chain b 0 x9 p → lch b p (x44.drop i) x7 → (on = true → x9 ≠ []) → ∃ r, Ev (fun k => header_Of.l0 k b x7 x9 on x44 (x44.length : Int) (i : Int)) (r, x7) ∧ r.length ≤ x44.length ∧ chain b 0 r x7 := by
  intro d
  induction d with
  | zero =>
    intro x44 i x9 on p q h1 h2 h3 h4 h5 h6 h7
    have : x44.drop i = [] := List.drop_eq_nil_of_le (by omega)
    rw [this] at h6
    exact ⟨x9, st (fun k => by rw [header_Of.l0]) (no (by omega) (fin rfl)), by omega, chain_le h5 h6⟩
  | succ d ih =>
    intro x44 i x9 on p q h1 h2 h3 h4 h5 h6 h7
    by_cases hi : i < x44.length
    · obtain ⟨x, t, ht⟩ : ∃ x t, x44.drop i = x :: t := ⟨_, _, List.drop_eq_getElem_cons hi⟩
      obtain ⟨_, hx, ht'⟩ := drop_T ht
      rw [ht] at h6
      obtain ⟨h61, h62, h63⟩ := h6
      rw [← ht'] at h63
      have hts := Aside0.mk (txt_size h62)
      have htx := Aside0.mk (txt_of h62)
      obtain ⟨g, hg⟩ := goes_ok (ln_txt b x.f0 x.f1)
      have hw : Aside0 (wrap64 ((i : Int) + 1) = ((i + 1 : Nat) : Int)) := ⟨by unfold wrap64; omega⟩
      obtain ⟨l1, l2, l3, l4, l5, l6⟩ := h62
      clear l6
      have hp2 : p ≤ x.f2 := by omega
      cases g with
      | true =>
        cases on with
        | true =>
          obtain ⟨m, y, rfl⟩ : ∃ m y, x9 = m ++ [y] := by
            rcases List.eq_nil_or_concat x9 with h | ⟨m, y, h⟩
            · exact absurd h (h7 rfl)
            · exact ⟨m, y, by rw [h, List.concat_eq_append]⟩
          have hml : (m ++ [y]).length = m.length + 1 := by simp
          have hwl : Aside0 (wrap64 (((m ++ [y]).length : Int) - 1) = (m.length : Int)) := ⟨by rw [hml]; unfold wrap64; omega⟩
          obtain ⟨r, hr, hrl, hrc⟩ := ih x44 (i + 1) (m ++ [⟨y.f0, y.f1, y.f2, x.f2⟩]) true x.f2 0 (by omega) (by omega) h3 (by simp; omega) (chain_last y x.f2 h5 hp2) h63 (fun _ => by simp)
          refine ⟨r, ?_, hrl, hrc⟩
          refine st (fun k => by rw [header_Of.l0]) ?_
          rw [hx, hwl.out, rd_last31, Int.toNat_natCast, set_last]
          refine yes (by omega) ?_
          refine yes (by omega) ?_
          refine yes (by omega) ?_
          refine bs ?_
          rw [hg]
          refine bs ?_
          refine yes rfl ?_
          refine yes rfl ?_
          refine yes (by omega) ?_
          refine yes (by omega) ?_
          rw [hw.out]
          exact hr
        | false =>
          obtain ⟨r, hr, hrl, hrc⟩ := ih x44 (i + 1) x9 false x.f2 0 (by omega) (by omega) h3 (by omega) (chain_le h5 hp2) h63 (fun h => by cases h)
          refine ⟨r, ?_, hrl, hrc⟩
          refine st (fun k => by rw [header_Of.l0]) ?_
          rw [hx]
          refine yes (by omega) ?_
          refine yes (by omega) ?_
          refine yes (by omega) ?_
          refine bs ?_
          rw [hg]
          refine bs ?_
          refine yes rfl ?_
          refine no (by decide) ?_
          rw [hw.out]
          exact hr
      | false =>
        obtain ⟨⟨nm, at', is⟩, hn, hnf⟩ := named_ok (ln_txt b x.f0 x.f1) (by rw [hts.out]; omega)
        cases is with
        | true =>
          obtain ⟨j, hj, hj58, hn0, hnj, hat⟩ := hnf rfl
          rw [hts.out] at hj
          have hat' : at' = (j : Int) + 1 := hat
          have hbody : Aside0 (wrap64 (x.f0 + at') = x.f0 + ((j : Int) + 1)) := ⟨by rw [hat']; unfold wrap64; omega⟩
          have hf : fld b ⟨nm, x.f0, x.f0 + ((j : Int) + 1), x.f2⟩ := by
            refine ⟨show x.f0 < x.f0 + ((j : Int) + 1) by omega, show x.f0 + ((j : Int) + 1) ≤ x.f2 by omega, hn0, ?_, show 1 ≤ x.f0 + ((j : Int) + 1) by omega, show x.f0 + ((j : Int) + 1) ≤ (b.length : Int) by omega, ?_⟩
            · have : nm.size ≤ j := hnj
              show nm.size ≤ b.length
              omega
            · show rd b (x.f0 + ((j : Int) + 1) - 1) = 58
              rw [htx.out, str_bt _ (byte_drop (byte_take hb _) _), rd_sub b x.f1.toNat x.f0.toNat j (by omega) (by omega)] at hj58
              rw [show x.f0 + ((j : Int) + 1) - 1 = ((x.f0.toNat + j : Nat) : Int) by omega]
              exact hj58
          obtain ⟨r, hr, hrl, hrc⟩ := ih x44 (i + 1) (x9 ++ [⟨nm, x.f0, x.f0 + ((j : Int) + 1), x.f2⟩]) true x.f2 0 (by omega) (by omega) h3 (by simp; omega) (chain_snoc _ hf h5 h61) h63 (fun _ => by simp)
          refine ⟨r, ?_, hrl, hrc⟩
          refine st (fun k => by rw [header_Of.l0]) ?_
          rw [hx]
          refine yes (by omega) ?_
          refine yes (by omega) ?_
          refine yes (by omega) ?_
          refine bs ?_
          rw [hg]
          refine bs ?_
          refine no (by decide) ?_
          refine bnd hn ?_
          refine yes rfl ?_
          refine yes (by omega) ?_
          dsimp only
          rw [hw.out, hbody.out]
          exact hr
        | false =>
          obtain ⟨r, hr, hrl, hrc⟩ := ih x44 (i + 1) x9 false x.f2 0 (by omega) (by omega) h3 (by omega) (chain_le h5 hp2) h63 (fun h => by cases h)
          refine ⟨r, ?_, hrl, hrc⟩
          refine st (fun k => by rw [header_Of.l0]) ?_
          rw [hx]
          refine yes (by omega) ?_
          refine yes (by omega) ?_
          refine yes (by omega) ?_
          refine bs ?_
          rw [hg]
          refine bs ?_
          refine no (by decide) ?_
          refine bnd hn ?_
          refine no Bool.false_ne_true ?_
          dsimp only
          rw [hw.out]
          exact hr
    · exact ih x44 i x9 on p q (by omega) h2 h3 h4 h5 h6 h7
theorem emp_le : ∀ l : List S40, ln_emp l ≤ l.length
  | [] => Nat.le_refl _
  | x :: t => by
    show (if x.f0 = x.f1 then 0 else ln_emp t + 1) ≤ t.length + 1
    have := emp_le t
    split <;> omega
theorem of_ok (b : List Int) (hb : byte b) (hl : b.length ≤ 600) : ∃ l n, Ev (fun k => header_Of.f k b 0 (b.length : Int)) (l, n) ∧ l.length ≤ 600 ∧ chain b 0 l n ∧ n ≤ (b.length : Int) ∧ 0 ≤ n := by
  obtain ⟨ls, hls⟩ : ∃ ls, ls = ln_from b b.length 0 := ⟨_, rfl⟩
  have hch : lch b 0 ls (b.length : Int) := by rw [hls]; exact from_lch b b.length (Nat.le_refl _) b.length 0 (by omega) (by omega)
  have hlen : ls.length ≤ b.length := by rw [hls]; exact ln_from_len b b.length b.length 0 (by omega)
  have hof : lines_Of.f b 0 (b.length : Int) = some ls := by
    rw [of_eq b 0 _ (by omega), if_pos ⟨by omega, by omega, by omega⟩, hls]
    rfl
  unfold header_Of.f
  rw [hof]
  by_cases h0 : (ls.length : Int) = 0
  · have : ls = [] := List.length_eq_zero_iff.1 (by omega)
    exact ⟨[], 0, bs (yes h0 (fin rfl)), by simp, Int.le_refl _, by omega, by omega⟩
  · obtain ⟨i, hi⟩ : ∃ i, ls.length = i + 1 := ⟨ls.length - 1, by omega⟩
    have hw : Aside0 (wrap64 ((ls.length : Int) - 1) = (i : Int)) := ⟨by rw [hi]; unfold wrap64; omega⟩
    have hem : lines_Empty.f ls = some (ln_emr ls) := if_pos (by omega)
    have h9 := lch_last hch hi
    have hq := (lch_take hch (show i < ls.length by omega)).2
    by_cases hk : ln_emp ls < ls.length
    · obtain ⟨e, he⟩ : ∃ e, e = ln_emp ls := ⟨_, rfl⟩
      have her : ln_emr ls = (e : Int) := by rw [he]; exact if_pos hk
      rw [← he] at hk
      obtain ⟨ht1, ht2⟩ := lch_take hch hk
      obtain ⟨r, hr, hrl, hrc⟩ := of_l0 b hb hl (rd_T40 ls (e : Int)).f2 600 (ls.take e) 0 [] false 0 0 (by rw [List.length_take]; omega) (by omega) (by rw [List.length_take]; omega) (by simp) (Int.le_refl _) ht1 (fun h => by cases h)
      refine ⟨r, (rd_T40 ls (e : Int)).f2, ?_, ?_, hrc, ht2, lch_ge ht1⟩
      · refine bs ?_
        refine no h0 ?_
        rw [hw.out, hem, her]
        refine yes (by omega) ?_
        refine yes (by omega) ?_
        refine bs ?_
        refine yes (by omega) ?_
        refine yes (by omega) ?_
        refine yes (by omega) ?_
        refine yes (by omega) ?_
        refine st (fun k => by rw [header_Of.j0]) ?_
        rw [Int.toNat_natCast]
        exact hr
      · have := hrl
        rw [List.length_take] at this
        omega
    · have her : ln_emr ls = -1 := if_neg hk
      obtain ⟨r, hr, hrl, hrc⟩ := of_l0 b hb hl (rd_T40 ls (i : Int)).f2 600 ls 0 [] false 0 0 (by omega) (by omega) (by omega) (by simp) (Int.le_refl _) h9 (fun h => by cases h)
      refine ⟨r, (rd_T40 ls (i : Int)).f2, ?_, by omega, hrc, hq, lch_ge h9⟩
      refine bs ?_
      refine no h0 ?_
      rw [hw.out, hem, her]
      refine yes (by omega) ?_
      refine yes (by omega) ?_
      refine bs ?_
      refine no (by decide) ?_
      refine st (fun k => by rw [header_Of.j0]) ?_
      exact hr
end Go.Proofs.Ytckmfmfhhojmfaa.Chn
