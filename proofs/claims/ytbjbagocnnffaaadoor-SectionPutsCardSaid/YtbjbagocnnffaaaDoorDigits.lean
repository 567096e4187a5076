/- A number's digits: what both printed functions tell, and that they are the number again. -/
import Derived.Test.YtbjbagocnnffaaaDoorChA
import Derived.Test.YtbjbagocnnffaaaDoorPx13
import Derived.Test.YtbjbagocnnffaaaDoorPx6
set_option linter.unusedVariables false
set_option linter.unusedSimpArgs false
set_option linter.unusedSectionVars false
namespace Go.Proofs.YtbjbagocnnffaaaDoor.Chars
open Go.RowKit Go.Proofs.YtbjbagocnnffaaaDoor.P Go.Proofs.YtbjbagocnnffaaaDoorW.PrintWords Go.Proofs.YtbjbagocnnffaaaDoorW.PrintLast Go.Proofs.YtbjbagocnnffaaaDoorW.PrintMore Go.Proofs.YtbjbagocnnffaaaDoor.Aids
/-- the digits of a number above 0 that has at most `d`; of 0: none -/
def digs : Nat → Nat → List Int
  | 0, _ => []
  | d + 1, m => if m = 0 then [] else digs d (m / 10) ++ [48 + ((m % 10 : Nat) : Int)]
def digits (n : Int) : List Int := if n = 0 then [48] else if n < 0 then 45 :: digs 20 (-n).toNat else digs 20 n.toNat
theorem digs_zero (d : Nat) : digs d 0 = [] := by cases d <;> rfl
theorem digs_more (d : Nat) : ∀ m, m < 10 ^ d → digs (d + 1) m = digs d m := by
  induction d with
  | zero => intro m h; have : m = 0 := by omega
            subst this; rfl
  | succ d ih =>
    intro m h
    rw [digs]
    by_cases h0 : m = 0
    · subst h0; rfl
    · have hp : 10 ^ (d + 1) = 10 * 10 ^ d := by rw [Nat.pow_succ]; omega
      rw [if_neg h0, ih _ (by omega)]; rw [digs, if_neg h0]
theorem digs_byte (d : Nat) : ∀ m, byte (digs d m) := by
  induction d with
  | zero => intro m; exact byte_nil
  | succ d ih =>
    intro m
    rw [digs]
    by_cases h0 : m = 0
    · rw [if_pos h0]; exact byte_nil
    · rw [if_neg h0]; exact byte_append (ih _) (byte_one (by omega) (by omega))
theorem digs_len (d : Nat) : ∀ m, (digs d m).length ≤ d := by
  induction d with
  | zero => intro m; exact Nat.le_refl _
  | succ d ih =>
    intro m
    rw [digs]
    by_cases h0 : m = 0
    · rw [if_pos h0]; simp
    · rw [if_neg h0, List.length_append]; have := ih (m / 10); simp only [List.length_cons, List.length_nil]; omega
theorem mx_digit (r : Int) (h0 : -9 ≤ r) (h1 : r ≤ 9) : wrap32 (wrap64 (48 + mx r (wrap64 (-r)))) = 48 + (if r < 0 then -r else r) := by
  rw [w64 (x := -r) (by omega) (by omega)]
  unfold mx wrap32
  by_cases h : r < 0
  · rw [if_pos (by omega), if_pos h, w64 (by omega) (by omega)]; omega
  · rw [if_neg h]
    by_cases h2 : r < -r
    · omega
    · rw [if_neg h2, w64 (by omega) (by omega)]; omega
theorem enc_digit (c : Int) (h0 : 0 ≤ c) (h1 : c ≤ 9) : Utf8.encode (48 + c) = strOfNums [48 + c] := by
  have all : ∀ y : Fin 10, Utf8.encode (48 + (y.val : Int)) = strOfNums [48 + (y.val : Int)] := by decide +kernel
  have := all ⟨c.toNat, by omega⟩
  rwa [show ((⟨c.toNat, by omega⟩ : Fin 10).val : Int) = c from Int.toNat_of_nonneg h0] at this
theorem tm_neg (m : Nat) : Int.tmod (-(m : Int)) 10 = -((m % 10 : Nat) : Int) := by
  rw [Int.neg_tmod]; rfl
theorem td_neg (m : Nat) : Int.tdiv (-(m : Int)) 10 = -((m / 10 : Nat) : Int) := by
  rw [Int.neg_tdiv]; rfl
theorem digits_l0 (neg : Bool) (d : Nat) : ∀ (m : Nat) (acc : List Int), m < 10 ^ d → m ≤ 9223372036854775808 → (neg = true ∨ m ≤ 9223372036854775807) → acc.length + d ≤ 100 →
    Ev (fun k => chars_Digits.l0 k (if neg then -(m : Int) else (m : Int)) (strOfNums acc) neg) (strOfNums ((if neg then [45] else []) ++ digs d m ++ acc)) := by
  have stop : ∀ (acc : List Int), acc.length ≤ 100 → Ev (fun k => chars_Digits.l0 k 0 (strOfNums acc) neg) (strOfNums ((if neg then [45] else []) ++ acc)) := by
    intro acc ha
    refine st (fun k => by rw [chars_Digits.l0]) (yes rfl ?_)
    simp only [strOfNums_size, show (⟨#[45]⟩ : ByteArray) = strOfNums [45] from rfl, str_append]
    cases neg
    · exact no (by simp) (fin rfl)
    · exact yes rfl (yes (by omega) (fin rfl))
  induction d with
  | zero =>
    intro m acc hm h9 hn ha
    have : m = 0 := by omega
    subst this
    have := stop acc (by omega)
    cases neg <;> simpa [digs] using this
  | succ d ih =>
    intro m acc hm h9 hn ha
    by_cases h0 : m = 0
    · subst h0
      have := stop acc (by omega)
      cases neg <;> simpa [digs] using this
    · have hp : 10 ^ (d + 1) = 10 * 10 ^ d := by rw [Nat.pow_succ]; omega
      have hne : ¬ (if neg then -(m : Int) else (m : Int)) = 0 := by cases neg <;> simp <;> omega
      have e1 : wrap32 (wrap64 (48 + mx (Int.tmod (if neg then -(m : Int) else (m : Int)) 10) (wrap64 (-(Int.tmod (if neg then -(m : Int) else (m : Int)) 10))))) = 48 + ((m % 10 : Nat) : Int) := by
        cases neg
        · simp only [Bool.false_eq_true, if_false]
          rw [show Int.tmod (m : Int) 10 = ((m % 10 : Nat) : Int) from rfl, mx_digit _ (by omega) (by omega), if_neg (by omega)]
        · simp only [if_true]
          rw [tm_neg, mx_digit _ (by omega) (by omega)]
          by_cases hz : m % 10 = 0
          · rw [hz, if_neg (by omega)]; rfl
          · rw [if_pos (by omega)]; omega
      have e2 : wrap64 (Int.tdiv (if neg then -(m : Int) else (m : Int)) 10) = (if neg then -((m / 10 : Nat) : Int) else ((m / 10 : Nat) : Int)) := by
        cases neg
        · simp only [Bool.false_eq_true, if_false]
          rw [show Int.tdiv (m : Int) 10 = ((m / 10 : Nat) : Int) from rfl, w64 (by omega) (by omega)]
        · simp only [if_true]
          rw [td_neg, w64 (by omega) (by omega)]
      have go := ih (m / 10) ([48 + ((m % 10 : Nat) : Int)] ++ acc) (by omega) (by omega) (by omega) (by simp; omega)
      refine st (fun k => by rw [chars_Digits.l0]) ?_
      simp only [e1, e2, enc_digit _ (Int.natCast_nonneg (m % 10)) (by omega), str_append, strOfNums_size]
      refine no hne (yes ?_ ?_)
      · simp only [List.length_cons, List.length_nil]; omega
      · rw [digs, if_neg h0]
        simpa using go
theorem digitsS (n : Int) (h0 : -9223372036854775808 ≤ n) (h1 : n ≤ 9223372036854775807) : Ev (fun k => chars_Digits.f k n) (strOfNums (digits n)) := by
  unfold chars_Digits.f digits
  by_cases hz : n = 0
  · exact yes hz (fin (by rw [if_pos hz]; rfl))
  · refine no hz ?_
    rw [if_neg hz]
    by_cases hn : n < 0
    · rw [if_pos hn, decide_eq_true hn]
      have := digits_l0 true 20 (-n).toNat [] (by omega) (by omega) (.inl rfl) (by simp)
      simp only [if_true, List.append_nil] at this
      rwa [show -(((-n).toNat : Nat) : Int) = n by omega] at this
    · rw [if_neg hn, decide_eq_false hn]
      have := digits_l0 false 20 n.toNat [] (by omega) (by omega) (.inr (by omega)) (by simp)
      simp only [Bool.false_eq_true, if_false, List.append_nil, List.nil_append] at this
      rwa [show ((n.toNat : Nat) : Int) = n by omega] at this
def digU (m : Nat) : List Int := if m = 0 then [48] else digs 20 m
theorem ten_ex (c : Nat) (h : c ≤ 9) : (⟨#[48, 49, 50, 51, 52, 53, 54, 55, 56, 57]⟩ : ByteArray).extract c (c + 1) = strOfNums [48 + (c : Int)] := by
  have all : ∀ y : Fin 10, (⟨#[48, 49, 50, 51, 52, 53, 54, 55, 56, 57]⟩ : ByteArray).extract y.val (y.val + 1) = strOfNums [48 + (y.val : Int)] := by decide +kernel
  exact all ⟨c, by omega⟩
theorem wu {x : Int} (h0 : 0 ≤ x) (h1 : x < 18446744073709551616) : IntKind.u64.wrap x = x := by
  rw [IntKind.wrap_u64]; omega
theorem up_ev (d : Nat) : ∀ m : Nat, m < 10 ^ (d + 1) → d < 20 → m < 18446744073709551616 → Ev (fun k => letterboxref01_up.f k (m : Int)) (strOfNums (if m = 0 then [48] else digs (d + 1) m)) := by
  have small : ∀ (m d : Nat), m < 10 → Ev (fun k => letterboxref01_up.f k (m : Int)) (strOfNums (if m = 0 then [48] else digs (d + 1) m)) := by
    intro m d hm
    have e : (if m = 0 then [48] else digs (d + 1) m) = [48 + (m : Int)] := by
      by_cases h0 : m = 0
      · rw [if_pos h0, h0]; rfl
      · rw [if_neg h0, digs, if_neg h0, show m / 10 = 0 by omega, digs_zero, show m % 10 = m by omega]; rfl
    rw [e]
    refine st (fun k => by rw [letterboxref01_up.f]) ?_
    simp only [wu (x := (m : Int) + 1) (by omega) (by omega)]
    refine yes (by omega) (yes (by omega) (yes (by omega) (yes (by omega) (fin ?_))))
    rw [show ((m : Int) + 1).toNat = m + 1 by omega, Int.toNat_natCast]; exact ten_ex m (by omega)
  induction d with
  | zero => intro m hm _ _; exact small m 0 (by omega)
  | succ d ih =>
    intro m hm hd h64
    by_cases h10 : m < 10
    · exact small m _ h10
    · have hp : 10 ^ (d + 1 + 1) = 10 * 10 ^ (d + 1) := by rw [Nat.pow_succ]; omega
      have go := ih (m / 10) (by omega) (by omega) (by omega)
      have hz : ¬ m / 10 = 0 := by omega
      have hz2 : ¬ m = 0 := by omega
      rw [if_neg hz] at go
      rw [if_neg hz2, digs, if_neg hz2]
      have hlen := digs_len (d + 1) (m / 10)
      refine st (fun k => by rw [letterboxref01_up.f]) ?_
      simp only [show Int.tdiv (m : Int) 10 = ((m / 10 : Nat) : Int) from rfl, show Int.tmod (m : Int) 10 = ((m % 10 : Nat) : Int) from rfl, wu (x := ((m / 10 : Nat) : Int)) (by omega) (by omega), wu (x := ((m % 10 : Nat) : Int) + 1) (by omega) (by omega),
        show (((m % 10 : Nat) : Int) + 1).toNat = m % 10 + 1 by omega, Int.toNat_natCast, ten_ex (m % 10) (by omega)]
      refine no (by omega) (bnd go (yes (by omega) (yes (by omega) (yes (by omega) (yes ?_ (fin ?_))))))
      · simp only [strOfNums_size, List.length_cons, List.length_nil]; omega
      · rw [str_append]
theorem rdigitsS (n : Int) (h0 : -9223372036854775808 ≤ n) (h1 : n ≤ 9223372036854775807) : Ev (fun k => letterboxref01_Digits.f k n) (strOfNums (digits n)) := by
  unfold letterboxref01_Digits.f digits
  by_cases hn : n < 0
  · have e : IntKind.u64.wrap (IntKind.u64.wrap (wrap64 (-(wrap64 (n + 1)))) + 1) = (((-n).toNat : Nat) : Int) := by
      rw [w64 (x := n + 1) (by omega) (by omega), w64 (x := -(n + 1)) (by omega) (by omega), wu (x := -(n + 1)) (by omega) (by omega), wu (by omega) (by omega)]; omega
    have go := up_ev 19 (-n).toNat (by omega) (by omega) (by omega)
    rw [if_neg (by omega)] at go
    have hl := digs_len (19 + 1) (-n).toNat
    simp only [e]
    refine yes hn (bnd go ?_)
    rw [if_neg (show ¬ n = 0 by omega), if_pos hn]
    refine yes ?_ (fin ?_)
    · rw [strOfNums_size]; omega
    · rw [show (⟨#[45]⟩ : ByteArray) = strOfNums [45] from rfl, str_append]; rfl
  · have go := up_ev 19 n.toNat (by omega) (by omega) (by omega)
    rw [show ((n.toNat : Nat) : Int) = n by omega] at go
    simp only [wu (x := n) (by omega) (by omega)]
    refine no hn (bnd go (fin ?_))
    by_cases hz : n = 0
    · rw [if_pos (by omega), if_pos hz]
    · rw [if_neg (by omega), if_neg hz, if_neg hn]
theorem numL_snoc (l : List Int) (c n : Int) : numL (l ++ [c]) n = (numL l n).bind fun v => if c < 48 then none else if c > 57 then none else some (10 * v + (c - 48)) := by
  induction l generalizing n with
  | nil => rfl
  | cons x t ih =>
    rw [List.cons_append, numL, numL]
    by_cases h1 : x < 48
    · rw [if_pos h1, if_pos h1]; rfl
    · rw [if_neg h1, if_neg h1]
      by_cases h2 : x > 57
      · rw [if_pos h2, if_pos h2]; rfl
      · rw [if_neg h2, if_neg h2]; exact ih _
theorem numL_digs (d : Nat) : ∀ m, m < 10 ^ d → numL (digs d m) 0 = some (m : Int) := by
  induction d with
  | zero => intro m h; have : m = 0 := by omega
            subst this; rfl
  | succ d ih =>
    intro m h
    rw [digs]
    by_cases h0 : m = 0
    · rw [if_pos h0, h0]; rfl
    · have hp : 10 ^ (d + 1) = 10 * 10 ^ d := by rw [Nat.pow_succ]; omega
      rw [if_neg h0, numL_snoc, ih _ (by omega), Option.bind_some, if_neg (by omega), if_neg (by omega)]
      congr 1; omega
theorem digs_head (d : Nat) : ∀ m, m < 10 ^ d → m ≠ 0 → (digs d m).length ≥ 1 ∧ rd (digs d m) 0 ≠ 48 := by
  induction d with
  | zero => intro m h h0; omega
  | succ d ih =>
    intro m h h0
    have hp : 10 ^ (d + 1) = 10 * 10 ^ d := by rw [Nat.pow_succ]; omega
    rw [digs, if_neg h0]
    by_cases hz : m / 10 = 0
    · rw [hz, digs_zero]; exact ⟨by simp, by show 48 + ((m % 10 : Nat) : Int) ≠ 48; omega⟩
    · have := ih (m / 10) (by omega) hz
      refine ⟨by simp, ?_⟩
      rw [show rd (digs d (m / 10) ++ [48 + ((m % 10 : Nat) : Int)]) 0 = rd (digs d (m / 10)) 0 from ?_]
      · exact this.2
      · unfold rd; rw [List.getD_eq_getElem?_getD, List.getD_eq_getElem?_getD, show (0 : Int).toNat = 0 from rfl, List.getElem?_append_left (by omega)]
theorem digs_short (m : Nat) (h : m ≤ 4294967295) : (digs 20 m).length ≤ 10 := by
  have cut : ∀ e, e ≤ 10 → digs (10 + e) m = digs 10 m := by
    intro e
    induction e with
    | zero => intro _; rfl
    | succ e ih =>
      intro he
      rw [← ih (by omega)]
      refine digs_more _ _ ?_
      exact Nat.lt_of_lt_of_le (show m < 10 ^ 10 by omega) (Nat.pow_le_pow_right (n := 10) (by decide) (show 10 ≤ 10 + e from Nat.le_add_right _ _))
  rw [cut 10 (Nat.le_refl _)]; exact digs_len 10 m
theorem number_digits (n : Int) (h0 : -9223372036854775808 ≤ n) (h1 : n ≤ 9223372036854775807) : number (digits n) = if 0 ≤ n ∧ n ≤ 4294967295 then (n, true) else (0, false) := by
  unfold digits
  by_cases hz : n = 0
  · subst hz; decide
  · rw [if_neg hz]
    by_cases hn : n < 0
    · rw [if_pos hn, if_neg (by omega)]
      unfold number
      by_cases hb : (45 :: digs 20 (-n).toNat).length < 1 ∨ (45 :: digs 20 (-n).toNat).length > 10 ∨ ((45 :: digs 20 (-n).toNat).length > 1 ∧ rd (45 :: digs 20 (-n).toNat) 0 = 48)
      · rw [if_pos hb]
      · rw [if_neg hb, numL, if_pos (by omega)]; rfl
    · rw [if_neg hn]
      have hd := digs_head 20 n.toNat (by omega) (by omega)
      unfold number
      rw [numL_digs 20 n.toNat (by omega), show ((n.toNat : Nat) : Int) = n by omega, asNum]
      by_cases hs : n ≤ 4294967295
      · have hl := digs_short n.toNat (by omega)
        rw [if_neg (fun h => h.elim (fun h => by omega) (fun h => h.elim (fun h => by omega) (fun h => hd.2 h.2))), if_neg (by omega), if_pos ⟨by omega, hs⟩]
      · rw [if_neg (show ¬ (0 ≤ n ∧ n ≤ 4294967295) from fun h => hs h.2), if_pos (show n > 4294967295 by omega)]
        split <;> rfl
theorem digits_byte (n : Int) : byte (digits n) := by
  unfold digits
  split
  · exact byte_one (by omega) (by omega)
  · split
    · exact byte_cons (by omega) (digs_byte _ _)
    · exact digs_byte _ _
theorem digits_len (n : Int) : (digits n).length ≤ 21 := by
  unfold digits
  split
  · simp
  · split
    · have := digs_len 20 (-n).toNat; simp only [List.length_cons]; omega
    · have := digs_len 20 n.toNat; omega
end Go.Proofs.YtbjbagocnnffaaaDoor.Chars
