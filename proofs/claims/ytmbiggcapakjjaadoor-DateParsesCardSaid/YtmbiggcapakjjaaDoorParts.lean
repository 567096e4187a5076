-- Cut by a program of this session (wip/tools/prunew.py): what this claim does not need is left out.
import Derived.Test.YtmbiggcapakjjaaDoorSplA
import Derived.Test.YtmbiggcapakjjaaDoorPx1
set_option linter.unusedVariables false
set_option linter.unusedSimpArgs false
namespace Go.Proofs.YtmbiggcapakjjaaDoor.Prt
open Go.RowKit Go.Proofs.YtmbiggcapakjjaaDoor.P Go.Proofs.YtmbiggcapakjjaaDoorW.PrintWords Go.Proofs.YtmbiggcapakjjaaDoorW.PrintLast Go.Proofs.YtmbiggcapakjjaaDoor.Aids Go.Proofs.YtmbiggcapakjjaaDoor.Chars
def bl (c : Int) : Bool := decide (c = 32) || decide (c = 9)
theorem blank_f (c : Int) : chars_Blank.f c = some (bl c) := by
  unfold chars_Blank.f bl
  by_cases h : c = 32
  · simp [h]
  · simp only [h, if_false, decide_false, Bool.false_or]; rfl
def bareL : Nat → List Int → Nat → List Int
  | 0, _, _ => []
  | _ + 1, [], _ => []
  | d + 1, c :: t, n => if c = 40 then 32 :: bareL d t (n + 1) else if n = 0 then c :: bareL d t 0 else if c = 92 then bareL d (t.drop 1) n else if c = 41 then bareL d t (n - 1) else bareL d t n
theorem bareL_len : ∀ (d : Nat) (l : List Int) (n : Nat), (bareL d l n).length ≤ l.length
  | 0, l, n => by simp [bareL]
  | d + 1, [], n => by simp [bareL]
  | d + 1, c :: t, n => by
    have h1 := bareL_len d t (n + 1)
    have h2 := bareL_len d t 0
    have h3 := bareL_len d (t.drop 1) n
    have h4 := bareL_len d t (n - 1)
    have h5 := bareL_len d t n
    have h6 : (t.drop 1).length ≤ t.length := by rw [List.length_drop]; omega
    rw [bareL]
    simp only [List.length_cons]
    repeat' split
    all_goals (try simp only [List.length_cons])
    all_goals omega
theorem bareL_byte : ∀ (d : Nat) (l : List Int) (n : Nat), byte l → byte (bareL d l n)
  | 0, l, n, h => byte_nil
  | d + 1, [], n, h => byte_nil
  | d + 1, c :: t, n, h => by
    have hc := h c List.mem_cons_self
    have ht : byte t := fun x hx => h x (List.mem_cons_of_mem _ hx)
    rw [bareL]
    repeat' split
    · exact byte_cons (by omega) (bareL_byte d t _ ht)
    · exact byte_cons hc (bareL_byte d t _ ht)
    · exact bareL_byte d _ _ (byte_drop ht 1)
    · exact bareL_byte d t _ ht
    · exact bareL_byte d t _ ht
theorem bare_l0 {l : List Int} (hb : byte l) (hl : l.length ≤ 100000) : ∀ (d i n : Nat) (acc : List Int), l.length - i < d → n ≤ i → acc.length ≤ i → Ev (fun k => date_bare.l0 k (strOfNums l) acc (n : Int) (i : Int)) (strOfNums (acc ++ bareL d (l.drop i) n)) := by
  have hz : (strOfNums l).size = l.length := strOfNums_size _
  intro d
  induction d with
  | zero => intro i n acc h; omega
  | succ d ih =>
    intro i n acc h hn ha
    rcases Nat.lt_or_ge i l.length with hi | hi
    · have hbi := hb _ (rd_mem l i hi)
      rw [drop_rd l i hi, bareL]
      have hbt : bt (strOfNums l) (i : Int) = rd l (i : Int) := str_bt _ hb _
      generalize hx : rd l (i : Int) = x at *
      have e1 : Aside0 (wrap64 ((i : Int) + 1) = ((i + 1 : Nat) : Int)) := ⟨by rw [w64 (by omega) (by omega)]; omega⟩
      have e2 : Aside0 (wrap64 (((i + 1 : Nat) : Int) + 1) = ((i + 2 : Nat) : Int)) := ⟨by rw [w64 (by omega) (by omega)]; omega⟩
      have e3 : Aside0 (wrap64 ((n : Int) + 1) = ((n + 1 : Nat) : Int)) := ⟨by rw [w64 (by omega) (by omega)]; omega⟩
      refine st (fun k => by rw [date_bare.l0]) ?_
      rw [hbt]
      refine yes (by omega) (yes (by omega) ?_)
      by_cases hn0 : n = 0
      · subst hn0
        refine no (by omega) ?_
        refine st (fun k => by rw [date_bare.j1]) ?_
        refine no (by decide) ?_
        by_cases h40 : x = 40
        · rw [if_pos h40]
          refine yes h40 (yes (by omega) ?_)
          rw [e1.out, e3.out]
          refine toE (ih (i + 1) 1 (acc ++ [32]) (by omega) (by omega) (by simp; omega)) ?_
          simp
        · rw [if_neg h40, if_pos rfl]
          refine no h40 (no (by omega) ?_)
          refine st (fun k => by rw [date_bare.j2]) ?_
          refine no (by decide) (yes (by omega) (yes (by omega) ?_))
          rw [e1.out]
          refine toE (ih (i + 1) 0 (acc ++ [x]) (by omega) (by omega) (by simp; omega)) ?_
          simp
      · refine yes (by omega) ?_
        refine st (fun k => by rw [date_bare.j1]) ?_
        by_cases h92 : x = 92
        · have h40 : ¬ x = 40 := by omega
          rw [if_neg h40, if_neg hn0, if_pos h92]
          refine yes (beq_iff_eq.2 h92) ?_
          rw [e1.out, e2.out]
          refine toE (ih (i + 2) n acc (by omega) (by omega) (by omega)) ?_
          rw [List.drop_drop]
        · refine no (by rw [beq_iff_eq]; exact h92) ?_
          by_cases h40 : x = 40
          · rw [if_pos h40]
            refine yes h40 (yes (by omega) ?_)
            rw [e1.out, e3.out]
            refine toE (ih (i + 1) (n + 1) (acc ++ [32]) (by omega) (by omega) (by simp; omega)) ?_
            simp
          · rw [if_neg h40, if_neg hn0, if_neg h92]
            refine no h40 (yes (by omega) ?_)
            refine st (fun k => by rw [date_bare.j2]) ?_
            by_cases h41 : x = 41
            · rw [if_pos h41]
              have e4 : wrap64 ((n : Int) - 1) = ((n - 1 : Nat) : Int) := by rw [w64 (by omega) (by omega)]; omega
              refine yes (beq_iff_eq.2 h41) ?_
              rw [e1.out, e4]
              exact ih (i + 1) (n - 1) acc (by omega) (by omega) (by omega)
            · rw [if_neg h41]
              refine no (by rw [beq_iff_eq]; exact h41) (no (by omega) ?_)
              rw [e1.out]
              exact ih (i + 1) n acc (by omega) (by omega) (by omega)
    · rw [List.drop_eq_nil_of_le hi]
      refine st (fun k => by rw [date_bare.l0]) ?_
      refine no (by omega) (fin ?_)
      rw [bareL, List.append_nil]
theorem bare_ok {l : List Int} (hb : byte l) (hl : l.length ≤ 100000) : Ev (fun k => date_bare.f k (strOfNums l)) (strOfNums (bareL (l.length + 1) l 0)) := by
  have := bare_l0 hb hl (l.length + 1) 0 0 [] (by omega) (by omega) (by simp)
  unfold date_bare.f
  simpa using this
def partsL : List Int → List Int → List (List Int)
  | [], cur => if cur = [] then [] else [cur]
  | c :: t, cur => if bl c = true then (if cur = [] then partsL t [] else cur :: partsL t []) else partsL t (cur ++ [c])
theorem parts_l0 {l : List Int} (hb : byte l) (hl : l.length ≤ 100000) : ∀ (d i : Nat) (acc : List ByteArray) (fr : Int) (cur : List Int), l.length + 1 - i ≤ d → i ≤ l.length → acc.length ≤ i → ((fr = -1 ∧ cur = []) ∨ (∃ j : Nat, fr = (j : Int) ∧ j < i ∧ cur = (l.take i).drop j)) →
    Ev (fun k => date_parts.l0 k (strOfNums l) acc fr (i : Int)) (acc ++ Chars.strs (partsL (l.drop i) cur)) := by
  have hz : (strOfNums l).size = l.length := strOfNums_size _
  have hfin : ∀ (acc : List ByteArray) (fr : Int), Ev (fun k => date_parts.l0 k (strOfNums l) acc fr (((l.length : Nat) : Int) + 1)) acc := by
    intro acc fr
    refine st (fun k => by rw [date_parts.l0]) ?_
    exact no (by omega) (fin rfl)
  intro d
  induction d with
  | zero => intro i acc fr cur h hi; omega
  | succ d ih =>
    intro i acc fr cur h hi ha hc
    have e1 : Aside0 (wrap64 ((i : Int) + 1) = (i : Int) + 1) := ⟨w64 (by omega) (by omega)⟩
    have hcur : ∀ j : Nat, fr = (j : Int) → j < i → cur = (l.take i).drop j → cur ≠ [] ∧ (strOfNums l).extract (fr : Int).toNat ((i : Int)).toNat = strOfNums cur := by
      intro j hj hji hcj
      refine ⟨?_, ?_⟩
      · intro e
        rw [hcj] at e
        have := List.drop_eq_nil_iff.1 e
        rw [List.length_take] at this
        omega
      · rw [hj, Int.toNat_natCast, Int.toNat_natCast, str_extract, hcj]
    rcases Nat.lt_or_ge i l.length with hlt | hge
    · have hbi := hb _ (rd_mem l i hlt)
      have hbt : bt (strOfNums l) (i : Int) = rd l (i : Int) := str_bt _ hb _
      rw [drop_rd l i hlt, partsL]
      have htk : (l.take (i + 1)) = l.take i ++ [rd l (i : Int)] := by rw [List.take_succ_eq_append_getElem hlt, rd_at l i hlt]
      generalize hx : rd l (i : Int) = x at *
      refine st (fun k => by rw [date_parts.l0]) ?_
      rw [hbt, blank_f]
      refine yes (by omega) (yes (by omega) (yes (by omega) (bs ?_)))
      have hi1 : ((i : Int) + 1) = ((i + 1 : Nat) : Int) := by omega
      cases hbl : bl x with
      | true =>
        rw [if_pos rfl]
        refine st (fun k => by rw [date_parts.j1]) ?_
        refine no (by decide) ?_
        refine st (fun k => by rw [date_parts.j2]) ?_
        refine no (by decide) (no (by decide) ?_)
        rcases hc with ⟨hf, hcu⟩ | ⟨j, hf, hj, hcu⟩
        · rw [if_pos hcu]
          refine no (by omega) ?_
          rw [e1.out, hi1]
          exact ih (i + 1) acc fr [] (by omega) (by omega) (by omega) (.inl ⟨hf, rfl⟩)
        · obtain ⟨h1, h2⟩ := hcur j hf hj hcu
          rw [if_neg h1, h2]
          refine yes (by omega) (yes (by omega) (yes (by omega) (yes (by omega) (yes (by omega) ?_))))
          rw [e1.out, hi1]
          refine toE (ih (i + 1) (acc ++ [strOfNums cur]) (-1) [] (by omega) (by omega) (by simp; omega) (.inl ⟨rfl, rfl⟩)) ?_
          simp [Chars.strs]
      | false =>
        rw [if_neg (by decide)]
        refine st (fun k => by rw [date_parts.j1]) ?_
        refine yes (by decide) ?_
        refine st (fun k => by rw [date_parts.j2]) ?_
        rcases hc with ⟨hf, hcu⟩ | ⟨j, hf, hj, hcu⟩
        · refine yes (decide_eq_true (by omega)) ?_
          rw [e1.out, hi1]
          refine ih (i + 1) acc (i : Int) (cur ++ [x]) (by omega) (by omega) (by omega) (.inr ⟨i, rfl, by omega, ?_⟩)
          rw [hcu, htk, List.drop_append_of_le_length (by rw [List.length_take]; omega), List.drop_eq_nil_of_le (by rw [List.length_take]; omega)]
        · refine no (by rw [decide_eq_false (by omega)]; decide) (yes (by decide) ?_)
          rw [e1.out, hi1]
          refine ih (i + 1) acc fr (cur ++ [x]) (by omega) (by omega) (by omega) (.inr ⟨j, hf, by omega, ?_⟩)
          rw [hcu, htk, List.drop_append_of_le_length (by rw [List.length_take]; omega)]
    · have hie : i = l.length := by omega
      rw [List.drop_eq_nil_of_le hge, partsL]
      refine st (fun k => by rw [date_parts.l0]) ?_
      refine yes (by omega) (no (by omega) ?_)
      refine st (fun k => by rw [date_parts.j1]) ?_
      refine no (by decide) ?_
      refine st (fun k => by rw [date_parts.j2]) ?_
      refine no (by decide) (no (by decide) ?_)
      rcases hc with ⟨hf, hcu⟩ | ⟨j, hf, hj, hcu⟩
      · rw [if_pos hcu]
        refine no (by omega) ?_
        rw [e1.out, hie]
        refine toE (hfin acc fr) ?_
        simp [Chars.strs]
      · obtain ⟨h1, h2⟩ := hcur j hf hj hcu
        rw [if_neg h1, h2]
        refine yes (by omega) (yes (by omega) (yes (by omega) (yes (by omega) (yes (by omega) ?_))))
        rw [e1.out, hie]
        exact hfin _ (-1)
theorem parts_ok {l : List Int} (hb : byte l) (hl : l.length ≤ 100000) : Ev (fun k => date_parts.f k (strOfNums l)) (Chars.strs (partsL l [])) := by
  have := parts_l0 hb hl (l.length + 1) 0 [] (-1) [] (by omega) (by omega) (by simp) (.inl ⟨rfl, rfl⟩)
  unfold date_parts.f
  simpa using this
end Go.Proofs.YtmbiggcapakjjaaDoor.Prt
