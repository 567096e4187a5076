/- The seconds of a text: the program's and the document's tell the same. -/
import Derived.Test.YtmbiggcapakjjaaDoorDpA
import Derived.Test.YtmbiggcapakjjaaDoorPx3
import Derived.Test.YtmbiggcapakjjaaDoorPx12
set_option linter.unusedVariables false
set_option linter.unusedSimpArgs false
namespace Go.Proofs.YtmbiggcapakjjaaDoor.Dp
open Go.RowKit Go.Proofs.YtmbiggcapakjjaaDoor.P Go.Proofs.YtmbiggcapakjjaaDoorW.PrintWords Go.Proofs.YtmbiggcapakjjaaDoorW.PrintLast Go.Proofs.YtmbiggcapakjjaaDoor.Aids Go.Proofs.YtmbiggcapakjjaaDoor.Chars Go.Proofs.YtmbiggcapakjjaaDoor.Cal Go.Proofs.YtmbiggcapakjjaaDoor.Txt
theorem clock_l1 (L : List ByteArray) (many : List Int) (n : Int) : ∀ (c i : Nat), many.length - i ≤ c → i ≤ many.length → many.length ≤ 10 → Ev (fun k => date_clock.l1 k L n many (many.length : Int) (i : Int)) (if (L.length : Int) ∈ many.drop i then n else -1) := by
  intro c
  induction c with
  | zero =>
    intro i h1 h2 h3
    rw [List.drop_eq_nil_of_le (by omega), if_neg (by simp)]
    refine st (fun k => by rw [date_clock.l1]) ?_
    exact no (by omega) (fin rfl)
  | succ c ih =>
    intro i h1 h2 h3
    rcases Nat.lt_or_ge i many.length with h | h
    · refine st (fun k => by rw [date_clock.l1]) ?_
      refine yes (by omega) (yes (by omega) (yes (by omega) ?_))
      rw [drop_rd many i h]
      by_cases hs : (L.length : Int) = rd many (i : Int)
      · rw [if_pos (by rw [hs]; exact List.mem_cons_self)]
        exact yes hs (fin rfl)
      · refine no hs ?_
        have e1 : wrap64 ((i : Int) + 1) = ((i + 1 : Nat) : Int) := by rw [w64 (by omega) (by omega)]; omega
        rw [e1]
        refine toE (ih (i + 1) (by omega) h h3) ?_
        simp only [List.mem_cons, hs, false_or]
    · rw [List.drop_eq_nil_of_le h, if_neg (by simp)]
      refine st (fun k => by rw [date_clock.l1]) ?_
      exact no (by omega) (fin rfl)
/-- two digits' number -/
def dg2 (p : List Int) : Int := if p.all dg = true ∧ p.length = 2 then dv p 0 else -1
theorem dg2_in (p : List Int) : -1 ≤ dg2 p ∧ dg2 p ≤ 99 := by
  unfold dg2
  by_cases h : p.all dg = true ∧ p.length = 2
  · rw [if_pos h]
    have := dv_4 p h.1 (by omega)
    rw [h.2] at this
    omega
  · rw [if_neg h]; decide
theorem dg2_inv {p : List Int} (h : 0 ≤ dg2 p) : ∃ a b, p = [a, b] ∧ a ≠ 58 ∧ b ≠ 58 := by
  unfold dg2 at h
  by_cases hc : p.all dg = true ∧ p.length = 2
  · match p, hc.2 with
    | [a, b], _ =>
      have h1 := hc.1
      simp only [List.all_cons, List.all_nil, Bool.and_true, Bool.and_eq_true] at h1
      have a1 := (dg_is a).1 h1.1
      have b1 := (dg_is b).1 h1.2
      exact ⟨a, b, rfl, by omega, by omega⟩
  · rw [if_neg hc] at h; omega
theorem dg2_p {l : List Int} (hb : byte l) (hl : l.length ≤ 1000) : Ev (fun k => date_digits.f k (strOfNums l) [2]) (dg2 l) := by
  refine toE (digits_ok hb hl [2] (by decide) (by decide)) ?_
  unfold dg2
  by_cases h : l.all dg = true ∧ l.length = 2
  · rw [if_pos h, if_pos ⟨h.1, by rw [h.2]; decide⟩]
  · rw [if_neg h, if_neg (fun e => h ⟨e.1, by have := List.mem_singleton.1 e.2; omega⟩)]
theorem dg2_r {l : List Int} (hb : byte l) : Ev (fun k => letterboxref11_digits.f k (strOfNums l) 2 2) (dg2 l) := by
  refine toE (rdigits_ok hb 2 2 (by decide)) ?_
  unfold dg2
  by_cases h : l.all dg = true ∧ l.length = 2
  · rw [if_pos h, if_pos ⟨h.1, by omega, by omega⟩]
  · rw [if_neg h, if_neg (fun e => h ⟨e.1, by omega⟩)]
/-- what the program tells of the parts -/
def cl (many : List Int) (x1 : Int) : List (List Int) → Nat → Int → Int
  | [], i, acc => if (i : Int) ∈ many then acc else -1
  | p :: t, i, acc => if 3 ≤ i then -1 else if dg2 p < 0 then -1 else if dg2 p > ar3_ 23 59 x1 (i : Int) then -1 else cl many x1 t (i + 1) (acc + dg2 p * ar3_ 3600 60 1 (i : Int))
theorem ar_in (i : Nat) : 1 ≤ ar3_ 3600 60 1 (i : Int) ∧ ar3_ 3600 60 1 (i : Int) ≤ 3600 := by
  unfold ar3_
  repeat' split
  all_goals decide
theorem mul_in {a b : Int} (h0 : 0 ≤ a) (h1 : a ≤ 99) (h2 : 1 ≤ b ∧ b ≤ 3600) : 0 ≤ a * b ∧ a * b ≤ 356400 := by
  refine ⟨Int.mul_nonneg h0 (by omega), ?_⟩
  have := Int.mul_le_mul h1 h2.2 (by omega) (by decide)
  omega
theorem clock_l0 (L : List (List Int)) (hb : ∀ p ∈ L, byte p ∧ p.length ≤ 1000) (many : List Int) (hm : many.length ≤ 10) (x1 : Int) (hL : L.length ≤ 1000) : ∀ (c i : Nat) (acc : Int), L.length - i ≤ c → i ≤ L.length → i ≤ 3 → 0 ≤ acc → acc ≤ 356400 * (i : Int) →
    Ev (fun k => date_clock.l0 k x1 many (Chars.strs L) acc (Chars.strs L) (L.length : Int) (i : Int)) (cl many x1 (L.drop i) i acc) := by
  have hs : (Chars.strs L).length = L.length := by unfold Chars.strs; rw [List.length_map]
  have hend : ∀ acc : Int, Ev (fun k => date_clock.l0 k x1 many (Chars.strs L) acc (Chars.strs L) (L.length : Int) (L.length : Int)) (cl many x1 (L.drop L.length) L.length acc) := by
    intro acc
    refine st (fun k => by rw [date_clock.l0]) ?_
    refine no (by omega) ?_
    refine toE (clock_l1 (Chars.strs L) many acc many.length 0 (by omega) (by omega) hm) ?_
    rw [List.drop_length, cl, List.drop_zero, hs]
  intro c
  induction c with
  | zero =>
    intro i acc h1 h2 h3 h4 h5
    have : i = L.length := by omega
    subst this
    exact hend acc
  | succ c ih =>
    intro i acc h1 h2 h3 h4 h5
    rcases Nat.lt_or_ge i L.length with h | h
    · have hp := hb _ (List.getElem_mem h)
      rw [List.drop_eq_getElem_cons h, cl]
      refine st (fun k => by rw [date_clock.l0]) ?_
      rw [strs_at L i h, hs]
      refine yes (by omega) (yes (by omega) (yes (by omega) ?_))
      refine bnd (dg2_p hp.1 hp.2) ?_
      have hd := dg2_in L[i]
      generalize dg2 L[i] = n at *
      by_cases c1 : 3 ≤ i
      · rw [if_pos c1]
        exact yes (by omega) (fin rfl)
      rw [if_neg c1]
      refine no (by omega) ?_
      by_cases c2 : n < 0
      · rw [if_pos c2]
        exact yes c2 (fin rfl)
      rw [if_neg c2]
      refine no c2 (yes (by omega) ?_)
      by_cases c3 : n > ar3_ 23 59 x1 (i : Int)
      · rw [if_pos c3]
        exact yes c3 (fin rfl)
      rw [if_neg c3]
      refine no c3 ?_
      have hmul := mul_in (a := n) (by omega) (by omega) (ar_in i)
      generalize n * ar3_ 3600 60 1 (i : Int) = w at *
      rw [w64 (x := w) (by omega) (by omega), w64 (x := acc + w) (by omega) (by omega), w64 (x := (i : Int) + 1) (by omega) (by omega), show (i : Int) + 1 = ((i + 1 : Nat) : Int) by omega]
      exact ih (i + 1) (acc + w) (by omega) (by omega) (by omega) (by omega) (by omega)
    · have : i = L.length := by omega
      subst this
      exact hend acc
theorem splitL_part (z : Int) : ∀ (l cur : List Int), ∀ p ∈ splitL z l cur, p.length ≤ l.length + cur.length
  | [], cur => fun p hp => by rw [splitL, List.mem_singleton] at hp; rw [hp]; simp
  | c :: t, cur => fun p hp => by
    rw [splitL] at hp
    by_cases h : c = z
    · rw [if_pos h] at hp
      rcases List.mem_cons.1 hp with e | hp
      · rw [e]; simp only [List.length_cons]; omega
      · have := splitL_part z t [] p hp
        simp only [List.length_cons, List.length_nil] at this ⊢; omega
    · rw [if_neg h] at hp
      have := splitL_part z t _ p hp
      simp only [List.length_cons, List.length_append, List.length_nil] at this ⊢; omega
theorem clock_p {l : List Int} (hb : byte l) (hl : l.length ≤ 900) (many : List Int) (hm : many.length ≤ 10) (x1 : Int) : Ev (fun k => date_clock.f k (strOfNums l) x1 many) (cl many x1 (splitL 58 l []) 0 0) := by
  have hsp := Chars.split (strOfNums l) 58 (by rw [strOfNums_size]; omega)
  rw [bytes_str _ hb] at hsp
  unfold date_clock.f
  refine bnd hsp ?_
  have hs : (Chars.strs (splitL 58 l [])).length = (splitL 58 l []).length := by unfold Chars.strs; rw [List.length_map]
  have hlen := splitL_len 58 l []
  rw [hs]
  exact clock_l0 _ (fun p hp => ⟨splitL_byte 58 l [] hb byte_nil p hp, by have := splitL_part 58 l [] p hp; simp only [List.length_nil] at this; omega⟩) many hm x1 (by omega) (splitL 58 l []).length 0 0 (by omega) (by omega) (by omega) (by omega) (by omega)
theorem cl_step (many : List Int) (x1 : Int) (p : List Int) (t : List (List Int)) (i : Nat) (acc : Int) : cl many x1 (p :: t) i acc = -1 ∨ (i < 3 ∧ 0 ≤ dg2 p ∧ dg2 p ≤ ar3_ 23 59 x1 (i : Int) ∧ cl many x1 (p :: t) i acc = cl many x1 t (i + 1) (acc + dg2 p * ar3_ 3600 60 1 (i : Int))) := by
  rw [cl]
  by_cases c1 : 3 ≤ i
  · rw [if_pos c1]; exact .inl rfl
  rw [if_neg c1]
  by_cases c2 : dg2 p < 0
  · rw [if_pos c2]; exact .inl rfl
  rw [if_neg c2]
  by_cases c3 : dg2 p > ar3_ 23 59 x1 (i : Int)
  · rw [if_pos c3]; exact .inl rfl
  rw [if_neg c3]
  exact .inr ⟨by omega, by omega, by omega, rfl⟩
/-- what the program tells is a moment's time just if there are two or three parts -/
theorem cl_cases (two : Bool) (x1 : Int) (L : List (List Int)) : cl (if two = true then [2, 3] else [3]) x1 L 0 0 = -1 ∨ (∃ p q r, L = [p, q, r] ∧ 0 ≤ dg2 p ∧ dg2 p ≤ 23 ∧ 0 ≤ dg2 q ∧ dg2 q ≤ 59 ∧ 0 ≤ dg2 r ∧ dg2 r ≤ x1 ∧ cl (if two = true then [2, 3] else [3]) x1 L 0 0 = 3600 * dg2 p + 60 * dg2 q + dg2 r) ∨
    (two = true ∧ ∃ p q, L = [p, q] ∧ 0 ≤ dg2 p ∧ dg2 p ≤ 23 ∧ 0 ≤ dg2 q ∧ dg2 q ≤ 59 ∧ cl (if two = true then [2, 3] else [3]) x1 L 0 0 = 3600 * dg2 p + 60 * dg2 q) := by
  have a0 : ar3_ 23 59 x1 ((0 : Nat) : Int) = 23 ∧ ar3_ 23 59 x1 ((0 + 1 : Nat) : Int) = 59 ∧ ar3_ 23 59 x1 ((0 + 1 + 1 : Nat) : Int) = x1 := ⟨rfl, rfl, rfl⟩
  have b0 : ar3_ 3600 60 1 ((0 : Nat) : Int) = 3600 ∧ ar3_ 3600 60 1 ((0 + 1 : Nat) : Int) = 60 ∧ ar3_ 3600 60 1 ((0 + 1 + 1 : Nat) : Int) = 1 := ⟨rfl, rfl, rfl⟩
  generalize hmany : (if two = true then ([2, 3] : List Int) else [3]) = many
  have hm : ∀ n : Nat, (n : Int) ∈ many ↔ n = 3 ∨ (two = true ∧ n = 2) := by
    intro n
    rw [← hmany]
    cases two with
    | true => simp; omega
    | false => simp; omega
  match L with
  | [] =>
    left
    rw [cl, if_neg (by rw [hm]; omega)]
  | [p] =>
    left
    rcases cl_step many x1 p [] 0 0 with h | ⟨_, _, _, h⟩
    · exact h
    · rw [h, cl, if_neg (by rw [hm]; omega)]
  | [p, q] =>
    rcases cl_step many x1 p [q] 0 0 with h | ⟨_, p1, p2, h⟩
    · exact .inl h
    rw [h]
    rcases cl_step many x1 q [] (0 + 1) (0 + dg2 p * ar3_ 3600 60 1 ((0 : Nat) : Int)) with h1 | ⟨_, q1, q2, h1⟩
    · exact .inl h1
    rw [h1, cl]
    rw [a0.1] at p2
    rw [a0.2.1] at q2
    by_cases ht : two = true
    · right; right
      refine ⟨ht, p, q, rfl, p1, p2, q1, q2, ?_⟩
      rw [if_pos ((hm _).2 (.inr ⟨ht, rfl⟩)), b0.1, b0.2.1]
      omega
    · left
      rw [if_neg (by rw [hm]; exact fun e => e.elim (by decide) (fun e => ht e.1))]
  | [p, q, r] =>
    rcases cl_step many x1 p [q, r] 0 0 with h | ⟨_, p1, p2, h⟩
    · exact .inl h
    rw [h]
    rcases cl_step many x1 q [r] (0 + 1) (0 + dg2 p * ar3_ 3600 60 1 ((0 : Nat) : Int)) with h1 | ⟨_, q1, q2, h1⟩
    · exact .inl h1
    rw [h1]
    rcases cl_step many x1 r [] (0 + 1 + 1) (0 + dg2 p * ar3_ 3600 60 1 ((0 : Nat) : Int) + dg2 q * ar3_ 3600 60 1 ((0 + 1 : Nat) : Int)) with h2 | ⟨_, r1, r2, h2⟩
    · exact .inl h2
    rw [h2, cl]
    rw [a0.1] at p2
    rw [a0.2.1] at q2
    rw [a0.2.2] at r2
    right; left
    refine ⟨p, q, r, rfl, p1, p2, q1, q2, r1, r2, ?_⟩
    rw [if_pos ((hm _).2 (.inl rfl)), b0.1, b0.2.1, b0.2.2]
    omega
  | p :: q :: r :: s :: t =>
    left
    rcases cl_step many x1 p (q :: r :: s :: t) 0 0 with h | ⟨_, _, _, h⟩
    · exact h
    rw [h]
    rcases cl_step many x1 q (r :: s :: t) (0 + 1) (0 + dg2 p * ar3_ 3600 60 1 ((0 : Nat) : Int)) with h | ⟨_, _, _, h⟩
    · exact h
    rw [h]
    rcases cl_step many x1 r (s :: t) (0 + 1 + 1) (0 + dg2 p * ar3_ 3600 60 1 ((0 : Nat) : Int) + dg2 q * ar3_ 3600 60 1 ((0 + 1 : Nat) : Int)) with h | ⟨_, _, _, h⟩
    · exact h
    rw [h, cl, if_pos (by omega)]
theorem split_join (l : List Int) : fin1 58 [] (splitL 58 l []) true = l := by
  rw [fin1_split]; simp
theorem cl_3 (two : Bool) (x1 : Int) (p q r : List Int) (h : 0 ≤ dg2 p ∧ dg2 p ≤ 23 ∧ 0 ≤ dg2 q ∧ dg2 q ≤ 59 ∧ 0 ≤ dg2 r ∧ dg2 r ≤ x1) : cl (if two = true then [2, 3] else [3]) x1 [p, q, r] 0 0 = 3600 * dg2 p + 60 * dg2 q + dg2 r := by
  have a0 : ar3_ 23 59 x1 ((0 : Nat) : Int) = 23 ∧ ar3_ 23 59 x1 ((0 + 1 : Nat) : Int) = 59 ∧ ar3_ 23 59 x1 ((0 + 1 + 1 : Nat) : Int) = x1 := ⟨rfl, rfl, rfl⟩
  have b0 : ar3_ 3600 60 1 ((0 : Nat) : Int) = 3600 ∧ ar3_ 3600 60 1 ((0 + 1 : Nat) : Int) = 60 ∧ ar3_ 3600 60 1 ((0 + 1 + 1 : Nat) : Int) = 1 := ⟨rfl, rfl, rfl⟩
  rw [cl, if_neg (by decide), if_neg (by omega), if_neg (by rw [a0.1]; omega), cl, if_neg (by decide), if_neg (by omega), if_neg (by rw [a0.2.1]; omega), cl, if_neg (by decide), if_neg (by omega), if_neg (by rw [a0.2.2]; omega), cl, if_pos (by cases two <;> decide), b0.1, b0.2.1, b0.2.2]
  omega
theorem cl_2 (x1 : Int) (p q : List Int) (h : 0 ≤ dg2 p ∧ dg2 p ≤ 23 ∧ 0 ≤ dg2 q ∧ dg2 q ≤ 59) : cl [2, 3] x1 [p, q] 0 0 = 3600 * dg2 p + 60 * dg2 q := by
  have a0 : ar3_ 23 59 x1 ((0 : Nat) : Int) = 23 ∧ ar3_ 23 59 x1 ((0 + 1 : Nat) : Int) = 59 := ⟨rfl, rfl⟩
  have b0 : ar3_ 3600 60 1 ((0 : Nat) : Int) = 3600 ∧ ar3_ 3600 60 1 ((0 + 1 : Nat) : Int) = 60 := ⟨rfl, rfl⟩
  rw [cl, if_neg (by decide), if_neg (by omega), if_neg (by rw [a0.1]; omega), cl, if_neg (by decide), if_neg (by omega), if_neg (by rw [a0.2]; omega), cl, if_pos (by decide), b0.1, b0.2]
  omega
theorem dg2_no {a b : Int} (h : 0 ≤ dg2 [a, b]) : ∀ c ∈ [a, b], c ≠ 58 := by
  obtain ⟨x, y, e, hx, hy⟩ := dg2_inv h
  injection e with e1 e2
  injection e2 with e2 _
  subst e1; subst e2
  intro c hc
  simp only [List.mem_cons, List.not_mem_nil, or_false] at hc
  rcases hc with rfl | rfl
  · exact hx
  · exact hy
/-- the seconds of a text -/
theorem clock2 {l : List Int} (hb : byte l) (hl : l.length ≤ 900) (two : Bool) (x1 : Int) (hx : 59 ≤ x1 ∧ x1 ≤ 60) : ∃ v, Ev (fun k => date_clock.f k (strOfNums l) x1 (if two = true then [2, 3] else [3])) v ∧ Ev (fun k => letterboxref11_clock.f k (strOfNums l) (!two) x1) v ∧ -1 ≤ v ∧ v ≤ 100000 := by
  have hP := clock_p hb hl (if two = true then [2, 3] else [3]) (by split <;> decide) x1
  have hc := cl_cases two x1 (splitL 58 l [])
  have hj := split_join l
  have hR : Ev (fun k => letterboxref11_clock.j0 k (strOfNums l) x1 true) (-1) := by
    refine st (fun k => by rw [letterboxref11_clock.j0]) ?_
    exact yes rfl (fin rfl)
  have hbnd : -1 ≤ cl (if two = true then [2, 3] else [3]) x1 (splitL 58 l []) 0 0 ∧ cl (if two = true then [2, 3] else [3]) x1 (splitL 58 l []) 0 0 ≤ 100000 := by
    rcases hc with h | ⟨p, q, r, _, p1, p2, q1, q2, r1, r2, h⟩ | ⟨_, p, q, _, p1, p2, q1, q2, h⟩ <;> rw [h] <;> omega
  refine ⟨_, hP, ?_, hbnd⟩
  unfold letterboxref11_clock.f
  rw [strOfNums_size]
  by_cases h8 : l.length = 8
  · refine yes (by omega) ?_
    match l, h8 with
    | [c0, c1, c2, c3, c4, c5, c6, c7], _ =>
      have b01 : byte [c0, c1] := byte_take hb 2
      have b34 : byte [c3, c4] := byte_drop (byte_take hb 5) 3
      have b67 : byte [c6, c7] := byte_drop hb 6
      have e01 : (strOfNums [c0, c1, c2, c3, c4, c5, c6, c7]).extract 0 2 = strOfNums [c0, c1] := by rw [str_extract]; rfl
      have e34 : (strOfNums [c0, c1, c2, c3, c4, c5, c6, c7]).extract 3 5 = strOfNums [c3, c4] := by rw [str_extract]; rfl
      have e67 : (strOfNums [c0, c1, c2, c3, c4, c5, c6, c7]).extract 6 [c0, c1, c2, c3, c4, c5, c6, c7].length = strOfNums [c6, c7] := by rw [str_extract]; rfl
      have hno : ¬ (c2 = 58 ∧ c5 = 58 ∧ 0 ≤ dg2 [c0, c1] ∧ dg2 [c0, c1] ≤ 23 ∧ 0 ≤ dg2 [c3, c4] ∧ dg2 [c3, c4] ≤ 59 ∧ 0 ≤ dg2 [c6, c7] ∧ dg2 [c6, c7] ≤ x1) → cl (if two = true then [2, 3] else [3]) x1 (splitL 58 [c0, c1, c2, c3, c4, c5, c6, c7] []) 0 0 = -1 := by
        intro hn
        rcases hc with h | ⟨p, q, r, hL, p1, p2, q1, q2, r1, r2, h⟩ | ⟨_, p, q, hL, p1, p2, q1, q2, h⟩
        · exact h
        · exfalso
          rw [hL] at hj
          obtain ⟨a, b, rfl, _, _⟩ := dg2_inv p1
          obtain ⟨c, d, rfl, _, _⟩ := dg2_inv q1
          obtain ⟨e, f, rfl, _, _⟩ := dg2_inv r1
          simp only [fin1, if_true, List.nil_append, List.cons_append, Bool.false_eq_true, if_false, List.cons.injEq, and_true] at hj
          obtain ⟨rfl, rfl, rfl, rfl, rfl, rfl, rfl, rfl⟩ := hj
          exact hn ⟨rfl, rfl, p1, p2, q1, q2, r1, r2⟩
        · exfalso
          rw [hL] at hj
          obtain ⟨a, b, rfl, _, _⟩ := dg2_inv p1
          obtain ⟨c, d, rfl, _, _⟩ := dg2_inv q1
          have := congrArg List.length hj
          simp [fin1] at this
      refine st (fun k => by rw [letterboxref11_clock.j0]) ?_
      rw [strOfNums_size, str_bt _ hb, str_bt _ hb, e01, e34, e67]
      refine no (by decide) (yes (by decide) (yes (by simp) (bnd (dg2_r b01) (yes (by decide) (yes (by simp) (bnd (dg2_r b34) (yes (by simp) (yes (by simp) (bnd (dg2_r b67) (yes (by simp) ?_))))))))))
      by_cases g5 : c5 = 58
      case neg => rw [hno (fun e => g5 e.2.1)]; exact no g5 (fin rfl)
      refine yes g5 (yes (by simp) ?_)
      by_cases g2 : c2 = 58
      case neg => rw [hno (fun e => g2 e.1)]; exact no g2 (fin rfl)
      refine yes g2 ?_
      by_cases t1 : dg2 [c0, c1] < 0
      · rw [hno (by omega)]; exact yes t1 (fin rfl)
      refine no t1 ?_
      by_cases t2 : dg2 [c0, c1] > 23
      · rw [hno (by omega)]; exact yes t2 (fin rfl)
      refine no t2 ?_
      by_cases t3 : dg2 [c3, c4] < 0
      · rw [hno (by omega)]; exact yes t3 (fin rfl)
      refine no t3 ?_
      by_cases t4 : dg2 [c3, c4] > 59
      · rw [hno (by omega)]; exact yes t4 (fin rfl)
      refine no t4 ?_
      by_cases t5 : dg2 [c6, c7] < 0
      · rw [hno (by omega)]; exact yes t5 (fin rfl)
      refine no t5 ?_
      by_cases t6 : dg2 [c6, c7] > x1
      · rw [hno (by omega)]; exact yes t6 (fin rfl)
      refine no t6 (fin ?_)
      subst g2; subst g5
      have hL : splitL 58 [c0, c1, 58, c3, c4, 58, c6, c7] [] = [[c0, c1], [c3, c4], [c6, c7]] := by
        rw [show [c0, c1, 58, c3, c4, 58, c6, c7] = [c0, c1] ++ 58 :: ([c3, c4] ++ 58 :: [c6, c7]) from rfl, splitL_at 58 _ _ [] (dg2_no (by omega)), splitL_at 58 _ _ [] (dg2_no (by omega)), splitL_no 58 _ [] (dg2_no (by omega))]
        rfl
      rw [hL, cl_3 two x1 _ _ _ (by omega)]
      rw [w64 (x := 3600 * dg2 [c0, c1]) (by omega) (by omega), w64 (x := 60 * dg2 [c3, c4]) (by omega) (by omega), w64 (x := 3600 * dg2 [c0, c1] + 60 * dg2 [c3, c4]) (by omega) (by omega), w64 (by omega) (by omega)]
  · refine no (by omega) ?_
    by_cases h5 : two = true ∧ l.length = 5
    · obtain ⟨rfl, h5⟩ := h5
      refine no (by decide) ?_
      rw [show ((l.length : Int) != 5) = false by rw [bne_eq_false_iff_eq]; omega]
      match l, h5 with
      | [c0, c1, c2, c3, c4], _ =>
        have b01 : byte [c0, c1] := byte_take hb 2
        have b34 : byte [c3, c4] := byte_drop hb 3
        have e01 : (strOfNums [c0, c1, c2, c3, c4]).extract 0 2 = strOfNums [c0, c1] := by rw [str_extract]; rfl
        have e34 : (strOfNums [c0, c1, c2, c3, c4]).extract 3 5 = strOfNums [c3, c4] := by rw [str_extract]; rfl
        have hno : ¬ (c2 = 58 ∧ 0 ≤ dg2 [c0, c1] ∧ dg2 [c0, c1] ≤ 23 ∧ 0 ≤ dg2 [c3, c4] ∧ dg2 [c3, c4] ≤ 59) → cl (if true = true then [2, 3] else [3]) x1 (splitL 58 [c0, c1, c2, c3, c4] []) 0 0 = -1 := by
          intro hn
          rcases hc with h | ⟨p, q, r, hL, p1, p2, q1, q2, r1, r2, h⟩ | ⟨_, p, q, hL, p1, p2, q1, q2, h⟩
          · exact h
          · exfalso
            rw [hL] at hj
            obtain ⟨a, b, rfl, _, _⟩ := dg2_inv p1
            obtain ⟨c, d, rfl, _, _⟩ := dg2_inv q1
            obtain ⟨e, f, rfl, _, _⟩ := dg2_inv r1
            have := congrArg List.length hj
            simp [fin1] at this
          · exfalso
            rw [hL] at hj
            obtain ⟨a, b, rfl, _, _⟩ := dg2_inv p1
            obtain ⟨c, d, rfl, _, _⟩ := dg2_inv q1
            simp only [fin1, if_true, List.nil_append, List.cons_append, Bool.false_eq_true, if_false, List.cons.injEq, and_true] at hj
            obtain ⟨rfl, rfl, rfl, rfl, rfl⟩ := hj
            exact hn ⟨rfl, p1, p2, q1, q2⟩
        refine st (fun k => by rw [letterboxref11_clock.j0]) ?_
        rw [strOfNums_size, str_bt _ hb, str_bt _ hb, e01, e34]
        refine no (by decide) (yes (by decide) (yes (by simp) (bnd (dg2_r b01) (yes (by decide) (yes (by simp) (bnd (dg2_r b34) (no (by simp) (yes (by simp) ?_))))))))
        by_cases g2 : c2 = 58
        case neg => rw [hno (fun e => g2 e.1)]; exact no g2 (fin rfl)
        refine yes g2 ?_
        by_cases t1 : dg2 [c0, c1] < 0
        · rw [hno (by omega)]; exact yes t1 (fin rfl)
        refine no t1 ?_
        by_cases t2 : dg2 [c0, c1] > 23
        · rw [hno (by omega)]; exact yes t2 (fin rfl)
        refine no t2 ?_
        by_cases t3 : dg2 [c3, c4] < 0
        · rw [hno (by omega)]; exact yes t3 (fin rfl)
        refine no t3 ?_
        by_cases t4 : dg2 [c3, c4] > 59
        · rw [hno (by omega)]; exact yes t4 (fin rfl)
        refine no t4 (no (by decide) (no (by omega) (fin ?_)))
        subst g2
        have hL : splitL 58 [c0, c1, 58, c3, c4] [] = [[c0, c1], [c3, c4]] := by
          rw [show [c0, c1, 58, c3, c4] = [c0, c1] ++ 58 :: [c3, c4] from rfl, splitL_at 58 _ _ [] (dg2_no (by omega)), splitL_no 58 _ [] (dg2_no (by omega))]
          rfl
        rw [hL, if_pos rfl, cl_2 x1 _ _ (by omega)]
        rw [w64 (x := 3600 * dg2 [c0, c1]) (by omega) (by omega), w64 (x := 60 * dg2 [c3, c4]) (by omega) (by omega), w64 (x := 3600 * dg2 [c0, c1] + 60 * dg2 [c3, c4]) (by omega) (by omega), w64 (by omega) (by omega)]
        omega
    · have hV : cl (if two = true then [2, 3] else [3]) x1 (splitL 58 l []) 0 0 = -1 := by
        rcases hc with h | ⟨p, q, r, hL, p1, p2, q1, q2, r1, r2, h⟩ | ⟨ht, p, q, hL, p1, p2, q1, q2, h⟩
        · exact h
        · exfalso
          rw [hL] at hj
          obtain ⟨a, b, rfl, _, _⟩ := dg2_inv p1
          obtain ⟨c, d, rfl, _, _⟩ := dg2_inv q1
          obtain ⟨e, f, rfl, _, _⟩ := dg2_inv r1
          have := congrArg List.length hj
          simp [fin1] at this
          omega
        · exfalso
          rw [hL] at hj
          obtain ⟨a, b, rfl, _, _⟩ := dg2_inv p1
          obtain ⟨c, d, rfl, _, _⟩ := dg2_inv q1
          have := congrArg List.length hj
          simp [fin1] at this
          exact h5 ⟨ht, by omega⟩
      rw [hV]
      cases two with
      | false => exact yes rfl hR
      | true =>
        refine no (by decide) ?_
        rw [show ((l.length : Int) != 5) = true by rw [bne_iff_ne]; intro e; exact h5 ⟨rfl, by omega⟩]
        exact hR
end Go.Proofs.YtmbiggcapakjjaaDoor.Dp
