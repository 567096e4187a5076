/- Rising numbers, out of their gaps. -/
import Derived.Test.YtimnfkmjdnmdeaaHas
set_option linter.unusedVariables false
set_option linter.unusedSimpArgs false
set_option linter.unusedSectionVars false
namespace Go.Proofs.Ytimnfkmjdnmdeaa.Chars
open Go.RowKit Go.Proofs.Ytimnfkmjdnmdeaa.P Go.Proofs.YtimnfkmjdnmdeaaW.PrintWords Go.Proofs.YtimnfkmjdnmdeaaW.PrintLast Go.Proofs.Ytimnfkmjdnmdeaa.Aids
def gap (m b : Int) : Int := wrap64 (wrap64 (Go.bits .and .u8 b m) + 1)
theorem and_le (b : Int) (m : Nat) (hm : m < 256) (h0 : 0 ≤ b) (h1 : b ≤ 255) : 0 ≤ Go.bits .and .u8 b (m : Int) ∧ Go.bits .and .u8 b (m : Int) ≤ m := by
  obtain ⟨n, rfl⟩ := Int.eq_ofNat_of_zero_le h0
  have := u8_and_nat n m (by omega) hm
  rw [show Go.bits .and .u8 (n : Int) (m : Int) = ((n &&& m : Nat) : Int) from this]
  have := @Nat.and_le_right n m
  omega
theorem gap_pos (m : Nat) (hm : m ≤ 7) (b : Int) (h0 : 0 ≤ b ∧ b ≤ 255) : 1 ≤ gap m b ∧ gap m b ≤ 8 := by
  have := and_le b m (by omega) h0.1 h0.2
  unfold gap
  rw [w64 (x := Go.bits .and .u8 b m) (by omega) (by omega), w64 (by omega) (by omega)]
  omega
def run (m : Int) : List Int → Int → List Int
  | [], _ => []
  | b :: t, a => (a + gap m b) :: run m t (a + gap m b)
def last_ (m : Int) : List Int → Int → Int
  | [], a => a
  | b :: t, a => last_ m t (a + gap m b)
section
variable (m : Nat) (hm : m ≤ 7)
include hm
theorem run_len : ∀ (l : List Int) (a : Int), (run m l a).length = l.length
  | [], a => rfl
  | b :: t, a => by rw [run, List.length_cons, run_len t, List.length_cons]
theorem last_ge : ∀ (l : List Int) (a : Int), byte l → a + l.length ≤ last_ m l a ∧ last_ m l a ≤ a + 8 * l.length
  | [], a, h => by simp [last_]
  | b :: t, a, h => by
    have g := gap_pos m hm b (h b List.mem_cons_self)
    have := last_ge t (a + gap m b) (fun x hx => h x (List.mem_cons_of_mem _ hx))
    rw [last_]; simp only [List.length_cons]; omega
theorem run_mem : ∀ (l : List Int) (a : Int), byte l → ∀ x ∈ run m l a, a < x ∧ x ≤ last_ m l a
  | [], a, h, x, hx => by simp [run] at hx
  | b :: t, a, h, x, hx => by
    have g := gap_pos m hm b (h b List.mem_cons_self)
    have ht : byte t := fun x hx => h x (List.mem_cons_of_mem _ hx)
    have hl := last_ge m hm t (a + gap m b) ht
    rw [run] at hx
    rw [last_]
    rcases List.mem_cons.1 hx with rfl | hx
    · omega
    · have := run_mem t (a + gap m b) ht x hx; omega
theorem run_last : ∀ (l : List Int) (a : Int), byte l → l ≠ [] → ∃ A, run m l a = A ++ [last_ m l a] ∧ ∀ x ∈ A, x < last_ m l a
  | [], a, _, h => absurd rfl h
  | [b], a, _, h => ⟨[], rfl, fun x hx => by cases hx⟩
  | b :: c :: t, a, hb, h => by
    have hbt : byte (c :: t) := fun x hx => hb x (List.mem_cons_of_mem _ hx)
    obtain ⟨A, e, hA⟩ := run_last (c :: t) (a + gap m b) hbt (by simp)
    refine ⟨(a + gap m b) :: A, by rw [run, e]; rfl, fun x hx => ?_⟩
    rcases List.mem_cons.1 hx with rfl | hx
    · have g := last_ge m hm (c :: t) (a + gap m b) hbt
      show _ < last_ m (c :: t) (a + gap m b)
      simp only [List.length_cons] at g; omega
    · exact hA x hx
end
theorem rd_end (A : List Int) (x : Int) : rd (A ++ [x]) (((A ++ [x]).length : Int) - 1) = x := by
  rw [show ((A ++ [x]).length : Int) - 1 = (A.length : Int) by simp, rd_last]
end Go.Proofs.Ytimnfkmjdnmdeaa.Chars
