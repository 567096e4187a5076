/- The law CrcOne holds of every row of bytes, place and byte: a byte that is another one lets the sum be another one, and one that isn't doesn't. No condition. -/
import Derived.Test.YteakllmajhnhpaaSum
import Derived.Test.YteakllmajhnhpaaPx3
namespace Go.Proofs.Yteakllmajhnhpaa.Pure
open Go.RowKit Go.Proofs.Yteakllmajhnhpaa.P Go.Proofs.YteakllmajhnhpaaW.PrintWords Go.Proofs.YteakllmajhnhpaaW.PrintLast Go.Proofs.Yteakllmajhnhpaa.Aids Go.Proofs.Yteakllmajhnhpaa.Crc

theorem CrcOne : letterboxlaw04_CrcOne.Pure := by
  intro b a1 a2 _ _ h3 h4 h5
  have hb : ∀ y ∈ b, 0 ≤ y ∧ y ≤ 255 := fun y hy => wf_u8 (h3 y hy)
  have hat := wf_u16 h4
  have hx := wf_u8 h5
  obtain ⟨at_, rfl⟩ := Int.eq_ofNat_of_zero_le hat.1
  obtain ⟨x, rfl⟩ := Int.eq_ofNat_of_zero_le hx.1
  refine ⟨1, ?_⟩
  unfold letterboxlaw04_CrcOne.f letterboxlaw04_awake.f
  rw [Option.bind_some, if_pos rfl]
  have jt : letterboxlaw04_CrcOne.j0 1 b (at_ : Int) (x : Int) true = some true := by rw [letterboxlaw04_CrcOne.j0, if_pos rfl]
  split
  · exact jt
  · rename_i h0
    by_cases h500 : (b.length : Int) > 500
    · rw [decide_eq_true h500]; exact jt
    · rw [decide_eq_false h500, letterboxlaw04_CrcOne.j0, if_neg (by decide), if_pos (by simp; omega), Option.bind_some, List.nil_append, if_neg (by omega), w64 (by omega) (by omega), tmod_nat]
      have hlt : at_ % b.length < b.length := Nat.mod_lt _ (by omega)
      rw [if_pos (by omega), if_pos (by omega), Int.toNat_natCast]
      have hS := set_num b hb (at_ % b.length) x hlt (by omega)
      have hcb := set_bytes hb (q := at_ % b.length) hS.2
      rw [Of_eq b hb, Of_eq _ hcb]
      simp only [Option.bind_some]
      by_cases hz : x = 0
      · subst hz
        have e : crcs (4294967295 ^^^ 0) (nat (b.set (at_ % b.length) (Go.bits .xor .u8 (rd b ((at_ % b.length : Nat) : Int)) ((0 : Nat) : Int)))) = crcs (4294967295 ^^^ 0) (nat b) := by
          rw [crcs_num _ _ (nat_lt hcb), crcs_num _ _ (nat_lt hb), hS.1]
          simp [nat]
        have e2 : sum 0 b = sum 0 (b.set (at_ % b.length) (Go.bits .xor .u8 (rd b ((at_ % b.length : Nat) : Int)) ((0 : Nat) : Int))) := by
          unfold sum; rw [e]
        rw [← e2]
        simp
      · have ne : sum 0 b ≠ sum 0 (b.set (at_ % b.length) (Go.bits .xor .u8 (rd b ((at_ % b.length : Nat) : Int)) (x : Int))) := by
          intro h
          exact hz (crcs_ne _ _ _ (nat_lt hb) (nat_lt hcb) (by simp [nat]) x (8 * (at_ % b.length)) (by omega) (by simp [nat]; omega) hS.1 (sum_inj h).symm)
        have f1 : (((sum 0 b : Nat) : Int) == ((sum 0 (b.set (at_ % b.length) (Go.bits .xor .u8 (rd b ((at_ % b.length : Nat) : Int)) (x : Int))) : Nat) : Int)) = false := beq_eq_false_iff_ne.2 (by omega)
        have f2 : ((x : Int) == 0) = false := beq_eq_false_iff_ne.2 (by omega)
        rw [f1, f2]
        rfl
end Go.Proofs.Yteakllmajhnhpaa.Pure
