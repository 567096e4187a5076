/- Digits, months, a day's number: the program's and the document's tell the same of any text and any numbers. -/
import Derived.Test.YtmbiggcapakjjaaDoorTxt
import Derived.Test.YtmbiggcapakjjaaDoorCal
import Derived.Test.YtmbiggcapakjjaaDoorFold
import Derived.Test.YtmbiggcapakjjaaDoorPx10
import Derived.Test.YtmbiggcapakjjaaDoorPx13
import Derived.Test.YtmbiggcapakjjaaDoorPx13
set_option linter.unusedVariables false
set_option linter.unusedSimpArgs false
namespace Go.Proofs.YtmbiggcapakjjaaDoor.Dp
open Go.RowKit Go.Proofs.YtmbiggcapakjjaaDoor.P Go.Proofs.YtmbiggcapakjjaaDoorW.PrintWords Go.Proofs.YtmbiggcapakjjaaDoorW.PrintLast Go.Proofs.YtmbiggcapakjjaaDoor.Aids Go.Proofs.YtmbiggcapakjjaaDoor.Chars Go.Proofs.YtmbiggcapakjjaaDoor.Cal Go.Proofs.YtmbiggcapakjjaaDoor.Txt
theorem rleap_f (y : Nat) : letterboxref11_leap.f (y : Int) = some (lp y) := by
  unfold letterboxref11_leap.f lp
  rw [show (4 : Int) = ((4 : Nat) : Int) from rfl, show (100 : Int) = ((100 : Nat) : Int) from rfl, show (400 : Int) = ((400 : Nat) : Int) from rfl, tm_of, tm_of, tm_of]
  by_cases h3 : y % 400 = 0
  · rw [if_pos (by omega)]
    simp [h3]
  · rw [if_neg (by omega)]
    by_cases h1 : y % 4 = 0
    · rw [if_pos (by omega)]
      by_cases h2 : y % 100 = 0
      · have : ((((y % 100 : Nat) : Int)) != 0) = false := by rw [bne_eq_false_iff_eq]; omega
        rw [this]
        simp [h1, h2, h3]
      · have : ((((y % 100 : Nat) : Int)) != 0) = true := by rw [bne_iff_ne]; omega
        rw [this]
        simp [h1, h2]
    · rw [if_neg (by omega)]
      simp [h1, h3]
theorem ryear_f (y : Nat) : letterboxref11_year.f (y : Int) = some (yl y : Int) := by
  unfold letterboxref11_year.f yl
  rw [rleap_f]
  cases lp y <;> rfl
theorem rdays_f (y m : Nat) : letterboxref11_days.f (y : Int) ((m + 1 : Nat) : Int) = some (ml y m : Int) := by
  unfold letterboxref11_days.f ml
  rw [rleap_f]
  by_cases h1 : m = 1
  · rw [if_pos (by omega), if_pos h1]
    cases lp y <;> rfl
  · rw [if_neg (by omega), if_neg h1]
    by_cases h3 : m = 3
    · rw [if_pos (by omega), if_pos h3]; rfl
    · rw [if_neg (by omega), if_neg h3]
      by_cases h5 : m = 5
      · rw [if_pos (by omega), if_pos h5]; rfl
      · rw [if_neg (by omega), if_neg h5]
        by_cases h8 : m = 8
        · rw [if_pos (by omega), if_pos h8]; rfl
        · rw [if_neg (by omega), if_neg h8]
          by_cases h10 : m = 10
          · rw [if_pos (by omega), if_pos h10]; rfl
          · rw [if_neg (by omega), if_neg h10]; rfl
theorem rname_f (m : Nat) (h : m < 12) : letterboxref11_name.f ((m + 1 : Nat) : Int) = some (strOfNums (moL m)) := by
  have all : ∀ x : Fin 12, letterboxref11_name.f ((x.val + 1 : Nat) : Int) = some (strOfNums (moL x.val)) := by decide +kernel
  exact all ⟨m, h⟩
/-! digits -/
theorem dv_in : ∀ (l : List Int) (n b : Int), l.all dg = true → 0 ≤ n → n < b → 0 ≤ dv l n ∧ dv l n < b * 10 ^ l.length
  | [], n, b, _, h0, h1 => by simp only [dv, List.length_nil, Int.pow_zero]; omega
  | c :: t, n, b, h, h0, h1 => by
    rw [List.all_cons, Bool.and_eq_true] at h
    have hc := (dg_is c).1 h.1
    have := dv_in t (10 * n + (c - 48)) (10 * b) h.2 (by omega) (by omega)
    rw [dv, List.length_cons, Int.pow_succ]
    refine ⟨this.1, ?_⟩
    have e : b * (10 ^ t.length * 10) = 10 * b * 10 ^ t.length := by
      rw [← Int.mul_assoc, Int.mul_comm (b * 10 ^ t.length) 10, ← Int.mul_assoc]
    rw [e]
    exact this.2
theorem dv_4 (l : List Int) (h : l.all dg = true) (hl : l.length ≤ 4) : 0 ≤ dv l 0 ∧ dv l 0 < 10 ^ l.length ∧ dv l 0 ≤ 9999 := by
  have := dv_in l 0 1 h (by omega) (by omega)
  rw [Int.one_mul] at this
  refine ⟨this.1, this.2, ?_⟩
  have hx : (10 : Int) ^ l.length ≤ 10000 := by
    have : l.length = 0 ∨ l.length = 1 ∨ l.length = 2 ∨ l.length = 3 ∨ l.length = 4 := by omega
    rcases this with e | e | e | e | e <;> rw [e] <;> decide
  omega
theorem rdig_l0 {l : List Int} (hb : byte l) (hl : l.length ≤ 4) : ∀ (c i : Nat) (n : Int), l.length - i ≤ c → i ≤ l.length → 0 ≤ n → n < 10 ^ i →
    Ev (fun k => letterboxref11_digits.l0 k (strOfNums l) n (i : Int)) (if (l.drop i).all dg = true then dv (l.drop i) n else -1) := by
  have hend : ∀ n : Int, Ev (fun k => letterboxref11_digits.l0 k (strOfNums l) n (l.length : Int)) (if (l.drop l.length).all dg = true then dv (l.drop l.length) n else -1) := by
    intro n
    refine st (fun k => by rw [letterboxref11_digits.l0]) ?_
    refine no (by rw [strOfNums_size]; omega) (fin ?_)
    rw [List.drop_length]
    simp [dv]
  intro c
  induction c with
  | zero =>
    intro i n h1 h2 h3 h4
    have : i = l.length := by omega
    subst this
    exact hend n
  | succ c ih =>
    intro i n h1 h2 h3 h4
    rcases Nat.lt_or_ge i l.length with h | h
    · have hbi := hb _ (rd_mem l i h)
      rw [drop_rd l i h, List.all_cons]
      generalize hx : rd l (i : Int) = x at *
      refine st (fun k => by rw [letterboxref11_digits.l0]) ?_
      rw [str_bt _ hb, hx]
      refine yes (by rw [strOfNums_size]; omega) (yes (by omega) ?_)
      by_cases c1 : x < 48
      · have : dg x = false := by unfold dg; rw [decide_eq_false (by omega), Bool.false_and]
        rw [this, Bool.false_and, if_neg (by simp)]
        exact yes c1 (fin rfl)
      · refine no c1 ?_
        by_cases c2 : x > 57
        · have : dg x = false := by unfold dg; rw [decide_eq_false (p := x ≤ 57) (by omega), Bool.and_false]
          rw [this, Bool.false_and, if_neg (by simp)]
          exact yes c2 (fin rfl)
        · refine no c2 ?_
          have hd : dg x = true := (dg_is x).2 ⟨by omega, by omega⟩
          rw [hd, Bool.true_and]
          have e1 : wrap64 ((i : Int) + 1) = ((i + 1 : Nat) : Int) := by rw [w64 (by omega) (by omega)]; omega
          rw [e1]
          have hi : i = 0 ∨ i = 1 ∨ i = 2 ∨ i = 3 := by omega
          have hn1 : n ≤ 1000 := by rcases hi with rfl | rfl | rfl | rfl <;> omega
          have e2 : wrap64 (wrap64 (wrap64 (10 * n) + wrap64 x) - 48) = 10 * n + (x - 48) := by
            rw [w64 (x := x) (by omega) (by omega), w64 (x := 10 * n) (by omega) (by omega), w64 (x := 10 * n + x) (by omega) (by omega), w64 (by omega) (by omega)]; omega
          rw [e2]
          refine ih (i + 1) _ (by omega) h (by omega) ?_
          have : (10 : Int) ^ (i + 1) = 10 * 10 ^ i := by rw [Int.pow_succ]; omega
          rw [this]
          omega
    · have : i = l.length := by omega
      subst this
      exact hend n
theorem rdigits_ok {l : List Int} (hb : byte l) (lo hi : Int) (hh : hi ≤ 4) : Ev (fun k => letterboxref11_digits.f k (strOfNums l) lo hi) (if l.all dg = true ∧ lo ≤ (l.length : Int) ∧ (l.length : Int) ≤ hi then dv l 0 else -1) := by
  unfold letterboxref11_digits.f
  rw [strOfNums_size]
  by_cases h1 : (l.length : Int) < lo
  · rw [if_neg (by omega)]
    refine yes h1 (st (fun k => by rw [letterboxref11_digits.j0]) ?_)
    exact yes rfl (fin rfl)
  · refine no h1 (st (fun k => by rw [letterboxref11_digits.j0]) ?_)
    by_cases h2 : (l.length : Int) > hi
    · rw [if_neg (by omega)]
      exact yes (decide_eq_true h2) (fin rfl)
    · refine no (by rw [decide_eq_true_eq]; exact h2) ?_
      refine toE (rdig_l0 hb (by omega) l.length 0 0 (by omega) (by omega) (by omega) (by decide)) ?_
      rw [List.drop_zero]
      by_cases h3 : l.all dg = true
      · rw [if_pos h3, if_pos ⟨h3, by omega, by omega⟩]
      · rw [if_neg h3, if_neg (fun e => h3 e.1)]
/-- how many digits, of how many there may be -/
theorem digits2 {l : List Int} (hb : byte l) (hl : l.length ≤ 1000) (many : List Int) (lo hi : Int) (h : (many, lo, hi) ∈ ([([1], 1, 1), ([2], 2, 2), ([4], 4, 4), ([1, 2], 1, 2)] : List (List Int × Int × Int))) :
    ∃ v, Ev (fun k => date_digits.f k (strOfNums l) many) v ∧ Ev (fun k => letterboxref11_digits.f k (strOfNums l) lo hi) v ∧ -1 ≤ v ∧ v ≤ 9999 := by
  have hm : many.length ≤ 10 ∧ (∀ x ∈ many, x ≤ 4) ∧ hi ≤ 4 ∧ ∀ n : Nat, ((n : Int) ∈ many ↔ lo ≤ (n : Int) ∧ (n : Int) ≤ hi) := by
    simp only [List.mem_cons, List.not_mem_nil, or_false, Prod.mk.injEq] at h
    rcases h with ⟨rfl, rfl, rfl⟩ | ⟨rfl, rfl, rfl⟩ | ⟨rfl, rfl, rfl⟩ | ⟨rfl, rfl, rfl⟩ <;>
      exact ⟨by decide, by decide, by decide, fun n => by simp only [List.mem_cons, List.not_mem_nil, or_false]; omega⟩
  refine ⟨_, digits_ok hb hl many hm.1 hm.2.1, toE (rdigits_ok hb lo hi hm.2.2.1) ?_, ?_⟩
  · by_cases h3 : l.all dg = true ∧ (l.length : Int) ∈ many
    · rw [if_pos h3, if_pos ⟨h3.1, (hm.2.2.2 _).1 h3.2⟩]
    · rw [if_neg h3, if_neg (fun e => h3 ⟨e.1, (hm.2.2.2 _).2 e.2⟩)]
  · by_cases h3 : l.all dg = true ∧ (l.length : Int) ∈ many
    · rw [if_pos h3]
      have := hm.2.1 _ h3.2
      have := dv_4 l h3.1 (by omega)
      omega
    · rw [if_neg h3]; omega
/-! a month's name -/
def mf (l : List Int) : Nat → Nat → Int
  | 0, _ => -1
  | d + 1, x => if lows (moL x) = lows l then (x : Int) else mf l d (x + 1)
theorem mf_in (l : List Int) : ∀ d x, -1 ≤ mf l d x ∧ mf l d x < (x + d : Nat) ∨ mf l d x = -1
  | 0, x => .inr rfl
  | d + 1, x => by
    rw [mf]
    split
    · left; omega
    · have := mf_in l d (x + 1)
      rcases this with h | h
      · left; omega
      · exact .inr h
theorem mf_f {l : List Int} (hb : byte l) (hl : l.length ≤ 1000000) : ∀ d x : Nat, x + d ≤ 12 → mo_find (strOfNums l) d (x : Int) = some (mf l d x)
  | 0, x, _ => rfl
  | d + 1, x, h => by
    have hx : x < 12 := by omega
    have hm := mo_is x hx
    rw [mo_find, mf]
    have e : chars_Same.f (mo_word (x : Int)) (strOfNums l) = some (decide (lows (moL x) = lows l)) := by
      unfold chars_Same.f
      rw [hm.1, folded _ (mo_byte x hx) (by omega), folded l hb hl]
      show some _ = some _
      rw [toList_beq, bytes_str _ (lows_byte (mo_byte x hx)), bytes_str _ (lows_byte hb)]
      congr 1
      rw [Bool.eq_iff_iff, beq_iff_eq, decide_eq_true_eq]
    rw [e]
    show (if decide (lows (moL x) = lows l) = true then some ((x : Nat) : Int) else mo_find (strOfNums l) d (((x : Nat) : Int) + 1)) = _
    by_cases hs : lows (moL x) = lows l
    · rw [if_pos (decide_eq_true hs), if_pos hs]
    · rw [if_neg (by rw [decide_eq_true_eq]; exact hs), if_neg hs, show ((x : Nat) : Int) + 1 = ((x + 1 : Nat) : Int) by omega]
      exact mf_f hb hl d (x + 1) (by omega)
theorem rmonth_l0 {l : List Int} (hb : byte l) (hl : l.length ≤ 1000000) : ∀ d x : Nat, x + d = 12 → Ev (fun k => letterboxref11_month.l0 k (strOfNums l) ((x + 1 : Nat) : Int)) (mf l d x + 1)
  | 0, x, h => by
    refine st (fun k => by rw [letterboxref11_month.l0]) ?_
    exact no (by omega) (fin rfl)
  | d + 1, x, h => by
    have hx : x < 12 := by omega
    have hm := mo_is x hx
    refine st (fun k => by rw [letterboxref11_month.l0]) ?_
    refine yes (by omega) ?_
    rw [rname_f x hx]
    refine bs ?_
    refine bnd (rfolded _ (mo_byte x hx) (by omega)) ?_
    refine bnd (rfolded l hb hl) ?_
    rw [mf]
    have hi : (strOfNums (lows (moL x))).toList = (strOfNums (lows l)).toList ↔ lows (moL x) = lows l := by
      rw [toList_iff, bytes_str _ (lows_byte (mo_byte x hx)), bytes_str _ (lows_byte hb)]
    by_cases hs : lows (moL x) = lows l
    · rw [if_pos hs]
      refine yes (hi.2 hs) (fin ?_)
      omega
    · rw [if_neg hs]
      refine no (fun e => hs (hi.1 e)) ?_
      rw [w64 (by omega) (by omega), show ((x + 1 : Nat) : Int) + 1 = ((x + 1 + 1 : Nat) : Int) by omega]
      exact rmonth_l0 hb hl d (x + 1) (by omega)
theorem month2 {l : List Int} (hb : byte l) (hl : l.length ≤ 1000000) : ∃ m : Int, date_month.f (strOfNums l) = some m ∧ Ev (fun k => letterboxref11_month.f k (strOfNums l)) (m + 1) ∧ -1 ≤ m ∧ m < 12 := by
  refine ⟨mf l 12 0, mf_f hb hl 12 0 (by omega), rmonth_l0 hb hl 12 0 rfl, ?_⟩
  have := mf_in l 12 0
  omega
/-! a day's number -/
def numV (y : Int) (m : Nat) (d : Int) : Int × Bool := if 1 ≤ y ∧ y ≤ 9999 ∧ 1 ≤ d ∧ d ≤ (ml y.toNat m : Int) then ((ah y.toNat : Int) + (cu y.toNat m : Int) + (d - 1) - 719162, true) else (0, false)
theorem num_not {y m d : Int} (h : y < 1 ∨ 9999 < y ∨ d < 1) : Ev (fun k => date_number.f k y m d) (0, false) := by
  have hT : Ev (fun k => date_number.j0 k y m d true) (0, false) := by
    refine st (fun k => by rw [date_number.j0]) ?_
    exact yes rfl (fin rfl)
  unfold date_number.f
  by_cases h1 : y < 1
  · exact yes h1 hT
  · refine no h1 ?_
    by_cases h2 : y > 9999
    · exact yes h2 hT
    · refine no h2 ?_
      exact yes (by omega) hT
theorem num_p {y d : Int} {m : Nat} (hm : m < 12) : Ev (fun k => date_number.f k y (m : Int) d) (numV y m d) := by
  by_cases h : y < 1 ∨ 9999 < y ∨ d < 1
  · unfold numV
    rw [if_neg (by omega)]
    exact num_not h
  · obtain ⟨Y, rfl⟩ : ∃ Y : Nat, y = (Y : Int) := ⟨y.toNat, by omega⟩
    obtain ⟨D, rfl⟩ : ∃ D : Nat, d = (D : Int) := ⟨d.toNat, by omega⟩
    unfold numV
    rw [Int.toNat_natCast]
    by_cases h2 : (D : Int) ≤ (ml Y m : Int)
    · rw [if_pos (by omega)]
      refine toE (number_of (N := ah Y + cu Y m + (D - 1)) ⟨by omega, by omega, hm, by omega, by omega, rfl⟩) ?_
      congr 1
      omega
    · rw [if_neg (by omega)]
      unfold date_number.f
      refine no (by omega) (no (by omega) (no (by omega) ?_))
      rw [length_f]
      refine bs ?_
      rw [decide_eq_true (by omega)]
      refine st (fun k => by rw [date_number.j0]) ?_
      exact yes rfl (fin rfl)
theorem cu_in (y m : Nat) (hm : m ≤ 12) : cu y m ≤ 366 := by
  have := cu_up y m (12 - m)
  rw [show m + (12 - m) = 12 by omega, yl_12] at this
  have := yl_le y
  omega
theorem rnum_hi (n : Int) (x : Nat) (h : 1970 ≤ x) : Ev (fun k => letterboxref11_number.l2 k n (x : Int)) (n, true) := by
  refine st (fun k => by rw [letterboxref11_number.l2]) ?_
  exact no (by omega) (fin rfl)
theorem rnum_lo : ∀ (c x : Nat) (n : Int), 1970 - x ≤ c → 1 ≤ x → x ≤ 1970 → -1000000000 + 366 * (1970 - (x : Int)) ≤ n → n ≤ 1000000000 → Ev (fun k => letterboxref11_number.l2 k n (x : Int)) (n + (ah x : Int) - 719162, true) := by
  have h1970 := ah_big.2
  intro c
  induction c with
  | zero =>
    intro x n h1 h2 h3 h4 h5
    have : x = 1970 := by omega
    subst this
    refine toE (rnum_hi n 1970 (by omega)) ?_
    rw [h1970]; congr 1; omega
  | succ c ih =>
    intro x n h1 h2 h3 h4 h5
    rcases Nat.lt_or_ge x 1970 with h | h
    · refine st (fun k => by rw [letterboxref11_number.l2]) ?_
      refine yes (by omega) ?_
      rw [ryear_f]
      refine bs ?_
      have hs := ah_succ x (by omega)
      have b3 := yl_le x
      rw [w64 (x := n - (yl x : Int)) (by omega) (by omega), w64 (x := (x : Int) + 1) (by omega) (by omega), show ((x : Int) + 1) = ((x + 1 : Nat) : Int) by omega]
      refine toE (ih (x + 1) (n - (yl x : Int)) (by omega) (by omega) (by omega) (by omega) (by omega)) ?_
      congr 1
      omega
    · have : x = 1970 := by omega
      subst this
      refine toE (rnum_hi n 1970 (by omega)) ?_
      rw [h1970]; congr 1; omega
theorem rnum_l1 (Y : Nat) (hY : Y ≤ 9999) : ∀ (c x : Nat) (n : Int), Y - x ≤ c → 1970 ≤ x → x ≤ Y → -1000000000 ≤ n → n ≤ 1000000000 - 366 * ((Y : Int) - (x : Int)) → Ev (fun k => letterboxref11_number.l1 k (Y : Int) n (x : Int)) (n + (ah Y : Int) - (ah x : Int), true) := by
  have hend : ∀ (n : Int), 1970 ≤ Y → Ev (fun k => letterboxref11_number.l1 k (Y : Int) n (Y : Int)) (n + (ah Y : Int) - (ah Y : Int), true) := by
    intro n h
    refine st (fun k => by rw [letterboxref11_number.l1]) ?_
    refine no (by omega) (toE (rnum_hi n Y h) ?_)
    congr 1; omega
  intro c
  induction c with
  | zero =>
    intro x n h1 h2 h3 h4 h5
    have : x = Y := by omega
    subst this
    exact hend n h2
  | succ c ih =>
    intro x n h1 h2 h3 h4 h5
    rcases Nat.lt_or_ge x Y with h | h
    · refine st (fun k => by rw [letterboxref11_number.l1]) ?_
      refine yes (by omega) ?_
      rw [ryear_f]
      refine bs ?_
      have hs := ah_succ x (by omega)
      have b3 := yl_le x
      rw [w64 (x := n + (yl x : Int)) (by omega) (by omega), w64 (x := (x : Int) + 1) (by omega) (by omega), show ((x : Int) + 1) = ((x + 1 : Nat) : Int) by omega]
      refine toE (ih (x + 1) (n + (yl x : Int)) (by omega) (by omega) (by omega) (by omega) (by omega)) ?_
      congr 1
      omega
    · have : x = Y := by omega
      subst this
      exact hend n h2
theorem rnum_years (Y : Nat) (hY0 : 1 ≤ Y) (hY : Y ≤ 9999) (n : Int) (h0 : 0 ≤ n) (h1 : n ≤ 100000) : Ev (fun k => letterboxref11_number.l1 k (Y : Int) n 1970) (n + (ah Y : Int) - 719162, true) := by
  have h1970 := ah_big.2
  rcases Nat.lt_or_ge Y 1970 with h | h
  · refine st (fun k => by rw [letterboxref11_number.l1]) ?_
    refine no (by omega) ?_
    exact rnum_lo 1970 Y n (by omega) hY0 (by omega) (by omega) (by omega)
  · refine toE (rnum_l1 Y hY Y 1970 n (by omega) (by omega) h (by omega) (by omega)) ?_
    rw [h1970]; rfl
theorem rnum_l0 (y M : Nat) (hy0 : 1 ≤ y) (hy : y ≤ 9999) (hM : M < 12) (n0 : Int) (hb : 0 ≤ n0 ∧ n0 ≤ 1000) : ∀ (c m : Nat), M - m ≤ c → m ≤ M → Ev (fun k => letterboxref11_number.l0 k (y : Int) ((M + 1 : Nat) : Int) (n0 + (cu y m : Int)) ((m + 1 : Nat) : Int)) (n0 + (cu y M : Int) + (ah y : Int) - 719162, true) := by
  have hend : Ev (fun k => letterboxref11_number.l0 k (y : Int) ((M + 1 : Nat) : Int) (n0 + (cu y M : Int)) ((M + 1 : Nat) : Int)) (n0 + (cu y M : Int) + (ah y : Int) - 719162, true) := by
    have := cu_in y M (by omega)
    refine st (fun k => by rw [letterboxref11_number.l0]) ?_
    refine no (by omega) ?_
    exact rnum_years y hy0 hy _ (by omega) (by omega)
  intro c
  induction c with
  | zero =>
    intro m hc hm
    have : m = M := by omega
    subst this
    exact hend
  | succ c ih =>
    intro m hc hm
    rcases Nat.lt_or_ge m M with h | h
    · refine st (fun k => by rw [letterboxref11_number.l0]) ?_
      refine yes (by omega) ?_
      rw [rdays_f]
      refine bs ?_
      have h1 := cu_in y m (by omega)
      have h2 := ml_pos y m
      have e1 : wrap64 (n0 + (cu y m : Int) + (ml y m : Int)) = n0 + (cu y (m + 1) : Int) := by
        rw [w64 (by omega) (by omega)]
        show _ = n0 + ((cu y m + ml y m : Nat) : Int)
        omega
      rw [e1]
      clear e1
      rw [w64 (x := ((m + 1 : Nat) : Int) + 1) (by omega) (by omega), show ((m + 1 : Nat) : Int) + 1 = ((m + 1 + 1 : Nat) : Int) by omega]
      exact ih (m + 1) (by omega) (by omega)
    · have : m = M := by omega
      subst this
      exact hend
theorem rnum_stop (y m d : Int) : Ev (fun k => letterboxref11_number.j0 k y m d true) (0, false) := by
  refine st (fun k => by rw [letterboxref11_number.j0]) ?_
  exact yes rfl (fin rfl)
theorem num_r {y d : Int} {m : Nat} (hm : m < 12) : Ev (fun k => letterboxref11_number.f k y ((m : Int) + 1) d) (numV y m d) := by
  rw [show (m : Int) + 1 = ((m + 1 : Nat) : Int) by omega]
  unfold letterboxref11_number.f
  by_cases h1 : y < 1
  · unfold numV
    rw [if_neg (by omega)]
    exact yes h1 (rnum_stop _ _ _)
  refine no h1 ?_
  by_cases h2 : y > 9999
  · unfold numV
    rw [if_neg (by omega)]
    exact yes h2 (rnum_stop _ _ _)
  refine no h2 (no (by omega) (no (by omega) ?_))
  by_cases h3 : d < 1
  · unfold numV
    rw [if_neg (by omega)]
    exact yes h3 (rnum_stop _ _ _)
  refine no h3 ?_
  obtain ⟨Y, rfl⟩ : ∃ Y : Nat, y = (Y : Int) := ⟨y.toNat, by omega⟩
  obtain ⟨D, rfl⟩ : ∃ D : Nat, d = (D : Int) := ⟨d.toNat, by omega⟩
  rw [rdays_f]
  refine bs ?_
  unfold numV
  rw [Int.toNat_natCast]
  by_cases h4 : (D : Int) ≤ (ml Y m : Int)
  · have hml := ml_pos Y m
    rw [if_pos (by omega), decide_eq_false (by omega)]
    refine st (fun k => by rw [letterboxref11_number.j0]) ?_
    refine no (by decide) ?_
    rw [w64 (x := (D : Int) - 1) (by omega) (by omega)]
    have h := rnum_l0 Y m (by omega) (by omega) hm ((D : Int) - 1) (by omega) m 0 (by omega) (by omega)
    rw [show ((D : Int) - 1 + (cu Y 0 : Int)) = (D : Int) - 1 from Int.add_zero _] at h
    refine toE h ?_
    congr 1
    omega
  · rw [if_neg (by omega), decide_eq_true (by omega)]
    exact rnum_stop _ _ _
theorem num_none (y d : Int) : Ev (fun k => letterboxref11_number.f k y 0 d) (0, false) := by
  unfold letterboxref11_number.f
  by_cases h1 : y < 1
  · exact yes h1 (rnum_stop _ _ _)
  refine no h1 ?_
  by_cases h2 : y > 9999
  · exact yes h2 (rnum_stop _ _ _)
  exact no h2 (yes (by omega) (rnum_stop _ _ _))
theorem numV_in (y : Int) (m : Nat) (d : Int) (hm : m < 12) : -4000000 ≤ (numV y m d).1 ∧ (numV y m d).1 ≤ 4000000 := by
  unfold numV
  by_cases h : 1 ≤ y ∧ y ≤ 9999 ∧ 1 ≤ d ∧ d ≤ (ml y.toNat m : Int)
  · rw [if_pos h]
    have b1 := cu_in y.toNat m (by omega)
    have b2 := ml_pos y.toNat m
    have b3 := ah_lt (a := y.toNat) (b := 10000) (by omega) (by omega)
    rw [ah_big.1] at b3
    show _ ≤ (ah y.toNat : Int) + (cu y.toNat m : Int) + (d - 1) - 719162 ∧ (ah y.toNat : Int) + (cu y.toNat m : Int) + (d - 1) - 719162 ≤ _
    omega
  · rw [if_neg h]; decide
/-- a day's number, of a month that is or is none -/
theorem number2 (y m d : Int) (hm : -1 ≤ m ∧ m < 12) : ∃ r : Int × Bool, (0 ≤ m → Ev (fun k => date_number.f k y m d) r) ∧ Ev (fun k => letterboxref11_number.f k y (m + 1) d) r ∧ (-4000000 ≤ r.1 ∧ r.1 ≤ 4000000) ∧ (m < 0 → r = (0, false)) := by
  by_cases h : m < 0
  · have : m = -1 := by omega
    subst this
    exact ⟨(0, false), fun e => absurd e (by decide), num_none y d, by decide, fun _ => rfl⟩
  · obtain ⟨M, rfl⟩ : ∃ M : Nat, m = (M : Int) := ⟨m.toNat, by omega⟩
    exact ⟨numV y M d, fun _ => num_p (by omega), num_r (by omega), numV_in y M d (by omega), fun e => absurd e h⟩
end Go.Proofs.YtmbiggcapakjjaaDoor.Dp
