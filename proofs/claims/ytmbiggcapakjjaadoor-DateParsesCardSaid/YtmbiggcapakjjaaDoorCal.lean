-- Cut by a program of this session (wip/tools/prunew.py): what this claim does not need is left out.
import Derived.Test.YtmbiggcapakjjaaDoorEvs
import Derived.Test.YtmbiggcapakjjaaDoorPx4
import Derived.Test.YtmbiggcapakjjaaDoorPx8
set_option linter.unusedVariables false
set_option linter.unusedSimpArgs false
namespace Go.Proofs.YtmbiggcapakjjaaDoor.Cal
open Go.RowKit Go.Proofs.YtmbiggcapakjjaaDoor.P Go.Proofs.YtmbiggcapakjjaaDoorW.PrintWords Go.Proofs.YtmbiggcapakjjaaDoorW.PrintLast Go.Proofs.YtmbiggcapakjjaaDoor.Aids
def lp (y : Nat) : Bool := (decide (y % 4 = 0) && decide (y % 100 ≠ 0)) || decide (y % 400 = 0)
def ml (y m : Nat) : Nat := if m = 1 then (if lp y = true then 29 else 28) else if m = 3 then 30 else if m = 5 then 30 else if m = 8 then 30 else if m = 10 then 30 else 31
def ah (y : Nat) : Nat := 365 * (y - 1) + (y - 1) / 4 - (y - 1) / 100 + (y - 1) / 400
def yl (y : Nat) : Nat := if lp y = true then 366 else 365
def cu (y : Nat) : Nat → Nat
  | 0 => 0
  | m + 1 => cu y m + ml y m
theorem ah_succ (y : Nat) (h : 1 ≤ y) : ah (y + 1) = ah y + yl y := by
  unfold ah yl lp
  by_cases h1 : y % 4 = 0
  · by_cases h2 : y % 100 = 0
    · by_cases h3 : y % 400 = 0
      · simp only [h1, h2, h3, decide_true, decide_false, ne_eq, not_true, Bool.and_false, Bool.false_or, if_true]
        omega
      · simp only [h1, h2, h3, decide_true, decide_false, ne_eq, not_true, Bool.and_false, Bool.false_or, Bool.false_eq_true, if_false]
        omega
    · simp only [h1, h2, decide_true, ne_eq, not_false_eq_true, Bool.true_and, Bool.true_or, if_true]
      omega
  · have h3 : ¬ y % 400 = 0 := by omega
    simp only [h1, h3, decide_false, Bool.false_and, Bool.false_or, Bool.false_eq_true, if_false]
    omega
theorem yl_12 (y : Nat) : cu y 12 = yl y := by
  unfold yl
  cases h : lp y <;> simp [cu, ml, h]
theorem ml_pos (y m : Nat) : 28 ≤ ml y m ∧ ml y m ≤ 31 := by
  unfold ml
  repeat' split
  all_goals omega
theorem yl_le (y : Nat) : 365 ≤ yl y ∧ yl y ≤ 366 := by
  unfold yl
  split <;> omega
theorem ah_up (y : Nat) (h : 1 ≤ y) : ∀ d : Nat, ah y + 365 * d ≤ ah (y + d) := by
  intro d
  induction d with
  | zero => simp
  | succ d ih =>
    have h1 := ah_succ (y + d) (by omega)
    have h2 := yl_le (y + d)
    rw [show y + (d + 1) = y + d + 1 by omega, h1]
    omega
theorem ah_lt {a b : Nat} (h : 1 ≤ a) (hab : a < b) : ah a + 365 ≤ ah b := by
  have := ah_up a h (b - a)
  rw [show a + (b - a) = b by omega] at this
  omega
theorem cu_up (y : Nat) : ∀ (m d : Nat), cu y m ≤ cu y (m + d)
  | m, 0 => Nat.le_refl _
  | m, d + 1 => by
    have := cu_up y m d
    show cu y m ≤ cu y (m + d) + ml y (m + d)
    omega
theorem tm_of {a : Nat} {c : Nat} : Int.tmod (a : Int) (c : Int) = ((a % c : Nat) : Int) := by
  rw [Int.tmod_eq_emod_of_nonneg (Int.natCast_nonneg a)]
  simp
theorem td_of {a : Nat} {c : Nat} : Int.tdiv (a : Int) (c : Int) = ((a / c : Nat) : Int) := by
  rw [Int.tdiv_eq_ediv_of_nonneg (Int.natCast_nonneg a)]
  simp
theorem leap_f (y : Nat) : date_leap.f (y : Int) = some (lp y) := by
  unfold date_leap.f lp
  rw [show (4 : Int) = ((4 : Nat) : Int) from rfl, show (100 : Int) = ((100 : Nat) : Int) from rfl, show (400 : Int) = ((400 : Nat) : Int) from rfl, tm_of, tm_of, tm_of]
  have e : ∀ c : Nat, (((c : Nat) : Int) == 0) = decide (c = 0) := by
    intro c
    cases hc : decide (c = 0) with
    | true => rw [of_decide_eq_true hc]; rfl
    | false => rw [beq_eq_false_iff_ne]; have := of_decide_eq_false hc; omega
  by_cases h1 : y % 4 = 0
  · by_cases h2 : y % 100 = 0
    · rw [if_pos (by omega), if_pos (by omega), e]
      simp [h1, h2]
    · rw [if_pos (by omega), if_neg (by omega)]
      simp [h1, h2]
  · have h3 : ¬ y % 400 = 0 := by omega
    rw [if_neg (by omega), e]
    simp [h1, h3]
theorem length_f (y m : Nat) : date_length.f (y : Int) (m : Int) = some (ml y m : Int) := by
  unfold date_length.f ml
  rw [leap_f]
  by_cases h1 : m = 1
  · rw [if_pos (by omega), if_pos h1]
    cases lp y <;> rfl
  · rw [if_neg (by omega), if_neg h1]
    by_cases h3 : m = 3
    · rw [if_pos (by omega), if_pos h3]; rfl
    · rw [if_neg (by omega), if_neg h3]
      by_cases h5 : m = 5
      · rw [if_pos (by omega), if_pos h5]; rfl
      · rw [if_neg (by omega), if_neg h5]
        by_cases h8 : m = 8
        · rw [if_pos (by omega), if_pos h8]; rfl
        · rw [if_neg (by omega), if_neg h8]
          by_cases h10 : m = 10
          · rw [if_pos (by omega), if_pos h10]; rfl
          · rw [if_neg (by omega), if_neg h10]; rfl
theorem ahead_f (y : Nat) (h : 1 ≤ y) (h2 : y ≤ 20000) : date_ahead.f (y : Int) = some (ah y : Int) := by
  unfold date_ahead.f ah
  have e1 : wrap64 ((y : Int) - 1) = ((y - 1 : Nat) : Int) := by rw [w64 (by omega) (by omega)]; omega
  rw [e1, show (4 : Int) = ((4 : Nat) : Int) from rfl, show (100 : Int) = ((100 : Nat) : Int) from rfl, show (400 : Int) = ((400 : Nat) : Int) from rfl, td_of, td_of, td_of]
  generalize y - 1 = z at *
  have hz : z ≤ 20000 := by
    have : wrap64 ((y : Int) - 1) = (y : Int) - 1 := w64 (by omega) (by omega)
    rw [this] at e1
    omega
  clear e1
  rw [w64 (x := 365 * (z : Int)) (by omega) (by omega), w64 (x := ((z / 4 : Nat) : Int)) (by omega) (by omega), w64 (x := ((z / 100 : Nat) : Int)) (by omega) (by omega), w64 (x := ((z / 400 : Nat) : Int)) (by omega) (by omega)]
  rw [w64 (x := 365 * (z : Int) + ((z / 4 : Nat) : Int)) (by omega) (by omega), w64 (x := 365 * (z : Int) + ((z / 4 : Nat) : Int) - ((z / 100 : Nat) : Int)) (by omega) (by omega), w64 (by omega) (by omega)]
  congr 1
  omega
theorem ah_big : ah 10000 = 3652059 ∧ ah 1970 = 719162 := by decide
def isDay (N y m d : Nat) : Prop := 1 ≤ y ∧ y ≤ 9999 ∧ m < 12 ∧ 1 ≤ d ∧ d ≤ ml y m ∧ ah y + cu y m + (d - 1) = N
theorem number_l0 (y M : Nat) (hM : M ≤ 12) (n0 : Int) (hb : -4611686018427387904 ≤ n0 ∧ n0 ≤ 4611686018427387904) : ∀ (c m : Nat), M - m ≤ c → m ≤ M → Ev (fun k => date_number.l0 k (y : Int) (n0 + (cu y m : Int)) (M : Int) (m : Int)) (n0 + (cu y M : Int), true) := by
  have hcb : ∀ m, m ≤ 12 → cu y m ≤ 366 := by
    intro m hm
    have := cu_up y m (12 - m)
    rw [show m + (12 - m) = 12 by omega, yl_12] at this
    have := yl_le y
    omega
  intro c
  induction c with
  | zero =>
    intro m hc hm
    have : m = M := by omega
    subst this
    refine st (fun k => by rw [date_number.l0]) ?_
    exact no (by omega) (fin rfl)
  | succ c ih =>
    intro m hc hm
    rcases Nat.lt_or_ge m M with h | h
    · refine st (fun k => by rw [date_number.l0]) ?_
      refine yes (by omega) ?_
      rw [length_f]
      refine bs ?_
      have h1 := hcb m (by omega)
      have h2 := ml_pos y m
      have e1 : wrap64 (n0 + (cu y m : Int) + (ml y m : Int)) = n0 + (cu y (m + 1) : Int) := by
        rw [w64 (by omega) (by omega)]
        show _ = n0 + ((cu y m + ml y m : Nat) : Int)
        omega
      have e2 : wrap64 ((m : Int) + 1) = ((m + 1 : Nat) : Int) := by rw [w64 (by omega) (by omega)]; omega
      rw [e1, e2]
      exact ih (m + 1) (by omega) (by omega)
    · have : m = M := by omega
      subst this
      refine st (fun k => by rw [date_number.l0]) ?_
      exact no (by omega) (fin rfl)
theorem number_of {N y m d : Nat} (h : isDay N y m d) : Ev (fun k => date_number.f k (y : Int) (m : Int) (d : Int)) ((N : Int) - 719162, true) := by
  obtain ⟨h1, h2, h3, h4, h5, h6⟩ := h
  have hml := ml_pos y m
  have a1 := ahead_f 1970 (by decide) (by decide)
  rw [ah_big.2] at a1
  have hah : ah y ≤ 3652059 := by
    rw [← ah_big.1]
    have := ah_lt (a := y) (b := 10000) h1 (by omega)
    omega
  unfold date_number.f
  refine no (by omega) ?_
  refine no (by omega) ?_
  refine no (by omega) ?_
  rw [length_f]
  refine bs ?_
  rw [decide_eq_false (by omega)]
  refine st (fun k => by rw [date_number.j0]) ?_
  refine no (by decide) ?_
  rw [ahead_f y h1 (by omega), show (1970 : Int) = ((1970 : Nat) : Int) from rfl, a1]
  refine bs ?_
  refine bs ?_
  have e1 : wrap64 (wrap64 (wrap64 ((ah y : Int) - ((719162 : Nat) : Int)) + (d : Int)) - 1) = ((ah y : Int) + (d : Int) - 1 - 719162) + (cu y 0 : Int) := by
    rw [w64 (x := (ah y : Int) - ((719162 : Nat) : Int)) (by omega) (by omega), w64 (x := (ah y : Int) - ((719162 : Nat) : Int) + (d : Int)) (by omega) (by omega), w64 (by omega) (by omega)]
    show _ = _ + ((0 : Nat) : Int)
    omega
  rw [e1]
  refine toE (number_l0 y m (by omega) _ (by omega) m 0 (by omega) (by omega)) ?_
  congr 1
  omega
end Go.Proofs.YtmbiggcapakjjaaDoor.Cal
