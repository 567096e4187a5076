/- Sums of bytes as a linear law on bits: plain Lean, no Go in sight. -/
import Derived.Test.YteakllmajhnhpaaAids
namespace Go.Proofs.Yteakllmajhnhpaa.Crc
def P : Nat := 3988292384
def A (x : Nat) : Nat := (x / 2) ^^^ (if x % 2 = 1 then P else 0)
def An : Nat → Nat → Nat
  | 0, x => x
  | n + 1, x => An n (A x)
theorem xor_div_two (x y : Nat) : (x ^^^ y) / 2 = x / 2 ^^^ y / 2 := by
  apply Nat.eq_of_testBit_eq; intro i
  simp [Nat.testBit_div_two]
theorem xor_mod_two (x y : Nat) : (x ^^^ y) % 2 = (x % 2 + y % 2) % 2 := by
  have h : (x ^^^ y) % 2 ^ 1 = x % 2 ^ 1 ^^^ y % 2 ^ 1 := Nat.xor_mod_two_pow
  simp only [Nat.pow_one] at h
  rw [h]
  rcases Nat.mod_two_eq_zero_or_one x with a | a <;> rcases Nat.mod_two_eq_zero_or_one y with b | b <;> rw [a, b] <;> rfl
theorem A_xor (x y : Nat) : A (x ^^^ y) = A x ^^^ A y := by
  unfold A
  rw [xor_div_two]
  have h := xor_mod_two x y
  rcases Nat.mod_two_eq_zero_or_one x with a | a <;> rcases Nat.mod_two_eq_zero_or_one y with b | b <;> simp [a, b] at h <;> simp [a, b, h]
  · rw [Nat.xor_assoc]
  · rw [Nat.xor_assoc, Nat.xor_assoc, Nat.xor_comm P]
  · have : x / 2 ^^^ P ^^^ (y / 2 ^^^ P) = x / 2 ^^^ y / 2 := by
      rw [Nat.xor_assoc, Nat.xor_comm (y / 2), ← Nat.xor_assoc P, Nat.xor_self, Nat.zero_xor]
    exact this.symm
theorem A_two (m : Nat) : A (2 * m) = m := by
  have h1 : 2 * m / 2 = m := by omega
  have h2 : 2 * m % 2 = 0 := by omega
  simp [A, h1]
theorem An_xor (n : Nat) : ∀ x y, An n (x ^^^ y) = An n x ^^^ An n y := by
  induction n with
  | zero => intro x y; rfl
  | succ n ih => intro x y; simp only [An]; rw [A_xor, ih]
theorem An_add (n m : Nat) : ∀ x, An (n + m) x = An m (An n x) := by
  induction n with
  | zero => intro x; simp [An]
  | succ n ih => intro x; rw [Nat.succ_add]; simp only [An]; exact ih _
theorem An_pow (n : Nat) : ∀ m, An n (2 ^ n * m) = m := by
  induction n with
  | zero => intro m; simp [An]
  | succ n ih => intro m; rw [Nat.pow_succ, Nat.mul_comm (2 ^ n) 2, Nat.mul_assoc]; simp only [An]; rw [A_two, ih]
theorem A_lt {x : Nat} (h : x < 2 ^ 32) : A x < 2 ^ 32 := by
  unfold A
  apply Nat.xor_lt_two_pow (by omega)
  split <;> decide
theorem A_zero {x : Nat} (hx : x < 2 ^ 32) (h : A x = 0) : x = 0 := by
  unfold A at h
  split at h
  · have : x / 2 = P := by
      have e := congrArg (· ^^^ P) h
      simpa [Nat.xor_assoc] using e
    unfold P at this
    omega
  · simp at h
    omega
theorem An_lt (n : Nat) : ∀ {x}, x < 2 ^ 32 → An n x < 2 ^ 32 := by
  induction n with
  | zero => intro x h; exact h
  | succ n ih => intro x h; exact ih (A_lt h)
theorem An_zero (n : Nat) : ∀ {x}, x < 2 ^ 32 → An n x = 0 → x = 0 := by
  induction n with
  | zero => intro x _ h; exact h
  | succ n ih => intro x hx h; exact A_zero hx (ih (A_lt hx) h)
theorem An_of_zero (n : Nat) : An n 0 = 0 := by
  have := An_pow n 0
  simpa using this
theorem xor_mul (n c m : Nat) (h : c < 2 ^ n) : c + 2 ^ n * m = c ^^^ (2 ^ n * m) := by
  apply Nat.eq_of_testBit_eq; intro i
  rw [Nat.testBit_xor, Nat.add_comm, Nat.testBit_two_pow_mul_add m h, Nat.testBit_two_pow_mul]
  by_cases hi : i < n
  · simp [hi, Nat.not_le.2 hi]
  · have : c.testBit i = false := Nat.testBit_lt_two_pow (Nat.lt_of_lt_of_le h (Nat.pow_le_pow_right (by decide) (by omega)))
    simp [hi, this, Nat.le_of_not_lt hi]
/-- the number of bytes, the lowest first -/
def num : List Nat → Nat
  | [] => 0
  | c :: l => c + 256 * num l
def crcs (x : Nat) (l : List Nat) : Nat := l.foldl (fun x c => An 8 (x ^^^ c)) x
theorem crcs_cons (x c : Nat) (l : List Nat) : crcs x (c :: l) = crcs (An 8 (x ^^^ c)) l := rfl
theorem crcs_num (l : List Nat) : ∀ x, (∀ c ∈ l, c < 256) → crcs x l = An (8 * l.length) (x ^^^ num l) := by
  induction l with
  | nil => intro x _; simp [crcs, num, An]
  | cons c l ih =>
    intro x h
    have hc : c < 2 ^ 8 := h c List.mem_cons_self
    rw [crcs_cons, ih _ (fun d hd => h d (List.mem_cons_of_mem _ hd))]
    rw [List.length_cons, show 8 * (l.length + 1) = 8 + 8 * l.length by omega, An_add]
    have e : An 8 (x ^^^ num (c :: l)) = An 8 (x ^^^ c) ^^^ num l := by
      rw [show num (c :: l) = c + 2 ^ 8 * num l from rfl, xor_mul 8 c (num l) hc, ← Nat.xor_assoc, An_xor 8 (x ^^^ c), An_pow]
    rw [e]
/-- bit by bit, as the document has it -/
def bs : Nat → Nat → Nat → Nat
  | 0, x, _ => x
  | n + 1, x, c => bs n (A (x ^^^ c % 2)) (c / 2)
theorem bs_eq (n : Nat) : ∀ x c, c < 2 ^ n → bs n x c = An n (x ^^^ c) := by
  induction n with
  | zero => intro x c h; have : c = 0 := by simpa using h
            subst this; simp [bs, An]
  | succ n ih =>
    intro x c h
    rw [Nat.pow_succ] at h
    simp only [bs, An]
    rw [ih _ _ (by omega)]
    have e : c = c % 2 ^^^ 2 * (c / 2) := by
      have := xor_mul 1 (c % 2) (c / 2) (by omega)
      simp only [Nat.pow_one] at this
      omega
    have e2 : A (x ^^^ c) = A (x ^^^ c % 2) ^^^ c / 2 := by
      conv => lhs; rw [e]
      rw [← Nat.xor_assoc, A_xor (x ^^^ c % 2), A_two]
    rw [e2]
/-- by four bits, as the program has it -/
theorem four_eq (x f : Nat) (hf : f < 16) : x / 16 ^^^ An 4 ((x ^^^ f) % 16) = An 4 (x ^^^ f) := by
  have e : x ^^^ f = (x ^^^ f) % 16 ^^^ 2 ^ 4 * ((x ^^^ f) / 16) := by
    rw [← xor_mul 4 _ _ (by omega)]
    omega
  have d : (x ^^^ f) / 16 = x / 16 := by
    apply Nat.eq_of_testBit_eq; intro i
    rw [show (16 : Nat) = 2 ^ 4 from rfl, Nat.testBit_div_two_pow, Nat.testBit_div_two_pow, Nat.testBit_xor]
    have : f.testBit (i + 4) = false := Nat.testBit_lt_two_pow (Nat.lt_of_lt_of_le hf (by
      show 2 ^ 4 ≤ _
      exact Nat.pow_le_pow_right (by decide) (by omega)))
    simp [this]
  conv => rhs; rw [e]
  rw [An_xor, An_pow, d, Nat.xor_comm]
theorem byte_eq (x c : Nat) : An 4 (An 4 (x ^^^ c % 16) ^^^ c / 16) = An 8 (x ^^^ c) := by
  have e : c = c % 16 ^^^ 2 ^ 4 * (c / 16) := by
    rw [← xor_mul 4 _ _ (by omega)]
    omega
  conv => rhs; rw [e]
  rw [← Nat.xor_assoc, show (8 : Nat) = 4 + 4 from rfl, An_add, An_xor 4 (x ^^^ c % 16), An_pow]
theorem num_lt (l : List Nat) (h : ∀ c ∈ l, c < 256) : num l < 2 ^ (8 * l.length) := by
  induction l with
  | nil => simp [num]
  | cons c l ih =>
    have := ih (fun d hd => h d (List.mem_cons_of_mem _ hd))
    have hc := h c List.mem_cons_self
    rw [List.length_cons, show 8 * (l.length + 1) = 8 * l.length + 8 by omega, Nat.pow_add]
    simp only [num]
    omega
theorem num_set (l : List Nat) : ∀ q d, (∀ c ∈ l, c < 256) → d < 256 → q < l.length → num (l.set q (l.getD q 0 ^^^ d)) = num l ^^^ (d * 2 ^ (8 * q)) := by
  induction l with
  | nil => intro q d _ _ hq; simp at hq
  | cons c l ih =>
    intro q d h hd hq
    have hc : c < 2 ^ 8 := h c List.mem_cons_self
    cases q with
    | zero =>
      simp only [List.set_cons_zero, List.getD_cons_zero, num, Nat.mul_zero, Nat.pow_zero, Nat.mul_one]
      have hx : c ^^^ d < 2 ^ 8 := Nat.xor_lt_two_pow hc hd
      have e1 := xor_mul 8 (c ^^^ d) (num l) hx
      have e2 := xor_mul 8 c (num l) hc
      simp only [show (2 : Nat) ^ 8 = 256 from rfl] at e1 e2
      rw [e1, e2, Nat.xor_assoc, Nat.xor_assoc, Nat.xor_comm d]
    | succ q =>
      simp only [List.set_cons_succ, List.getD_cons_succ, num]
      rw [ih q d (fun d hd => h d (List.mem_cons_of_mem _ hd)) hd (by simpa using hq)]
      have e1 := xor_mul 8 c (num l ^^^ d * 2 ^ (8 * q)) hc
      have e2 := xor_mul 8 c (num l) hc
      simp only [show (2 : Nat) ^ 8 = 256 from rfl] at e1 e2
      rw [e1, e2, Nat.xor_assoc]
      congr 1
      have mx : ∀ a b : Nat, 256 * (a ^^^ b) = 256 * a ^^^ 256 * b := by
        intro a b
        apply Nat.eq_of_testBit_eq; intro i
        rw [show (256 : Nat) = 2 ^ 8 from rfl, Nat.testBit_xor, Nat.testBit_two_pow_mul, Nat.testBit_two_pow_mul, Nat.testBit_two_pow_mul, Nat.testBit_xor]
        by_cases h : 8 ≤ i <;> simp [h]
      rw [mx]
      congr 1
      rw [show 8 * (q + 1) = 8 * q + 8 by omega, Nat.pow_add, Nat.mul_comm (2 ^ (8 * q)), ← Nat.mul_assoc, ← Nat.mul_assoc, Nat.mul_comm 256]
theorem crcs_lt (l : List Nat) : ∀ x, x < 2 ^ 32 → (∀ c ∈ l, c < 256) → crcs x l < 2 ^ 32 := by
  induction l with
  | nil => intro x h _; exact h
  | cons c l ih =>
    intro x h hl
    rw [crcs_cons]
    exact ih _ (An_lt 8 (Nat.xor_lt_two_pow h (Nat.lt_trans (hl c List.mem_cons_self) (by decide)))) (fun d hd => hl d (List.mem_cons_of_mem _ hd))
theorem crcs_append (x : Nat) (l m : List Nat) : crcs x (l ++ m) = crcs (crcs x l) m := by simp [crcs]
/-- rows that differ by a burst have sums that differ -/
theorem crcs_ne (x : Nat) (l m : List Nat) (hl : ∀ c ∈ l, c < 256) (hm : ∀ c ∈ m, c < 256) (hlen : m.length = l.length) (d k : Nat) (hd : d < 2 ^ 32) (hk : k ≤ 8 * l.length) (hn : num m = num l ^^^ (d * 2 ^ k)) (he : crcs x m = crcs x l) : d = 0 := by
  rw [crcs_num m x hm, crcs_num l x hl, hlen, hn, ← Nat.xor_assoc, An_xor] at he
  have : An (8 * l.length) (d * 2 ^ k) = 0 := by
    have e := congrArg (An (8 * l.length) (x ^^^ num l) ^^^ ·) he
    simp only [← Nat.xor_assoc, Nat.xor_self, Nat.zero_xor] at e
    exact e
  rw [show 8 * l.length = k + (8 * l.length - k) by omega, An_add, Nat.mul_comm d, An_pow] at this
  exact An_zero _ hd this
theorem mul_xor (k a b : Nat) : (a ^^^ b) * 2 ^ k = a * 2 ^ k ^^^ b * 2 ^ k := by
  apply Nat.eq_of_testBit_eq; intro i
  rw [Nat.testBit_xor, Nat.mul_comm, Nat.mul_comm a, Nat.mul_comm b, Nat.testBit_two_pow_mul, Nat.testBit_two_pow_mul, Nat.testBit_two_pow_mul, Nat.testBit_xor]
  by_cases h : k ≤ i <;> simp [h]
/-- one bit more of a burst -/
theorem burst_more (b i k : Nat) (h : b / 2 ^ i % 2 = 1) : (b % 2 ^ (i + 1)) * 2 ^ k = (b % 2 ^ i) * 2 ^ k ^^^ 2 ^ (k + i) := by
  have e : b % 2 ^ (i + 1) = b % 2 ^ i ^^^ 2 ^ i * 1 := by
    rw [← xor_mul i (b % 2 ^ i) 1 (Nat.mod_lt _ (Nat.two_pow_pos i)), Nat.mod_pow_succ, h]
  rw [e, mul_xor, Nat.mul_one, Nat.pow_add, Nat.mul_comm (2 ^ i)]
theorem burst_less (b i : Nat) (h : b / 2 ^ i % 2 ≠ 1) : b % 2 ^ (i + 1) = b % 2 ^ i := by
  have : b / 2 ^ i % 2 = 0 := by omega
  rw [Nat.mod_pow_succ, this]; simp
end Go.Proofs.Yteakllmajhnhpaa.Crc
