/- The law CrcBurst holds of every row of bytes, place and burst: rows that differ in up to 32 bits on end have sums that differ. No condition. -/
import Derived.Test.YteakllmajhnhpaaSum
import Derived.Test.YteakllmajhnhpaaPx3
namespace Go.Proofs.Yteakllmajhnhpaa.Pure
open Go.RowKit Go.Proofs.Yteakllmajhnhpaa.P Go.Proofs.YteakllmajhnhpaaW.PrintWords Go.Proofs.YteakllmajhnhpaaW.PrintLast Go.Proofs.YteakllmajhnhpaaW.PrintMore Go.Proofs.Yteakllmajhnhpaa.Aids Go.Proofs.Yteakllmajhnhpaa.Crc

theorem bit_test (B i : Nat) (hB : B < 4294967296) (hi : i < 32) : (Go.bits .and .u32 (shr .u32 (B : Int) (IntKind.u64.wrap (i : Int))) 1 = 1) ↔ B / 2 ^ i % 2 = 1 := by
  have e1 : IntKind.u64.wrap (i : Int) = (i : Int) := by rw [IntKind.wrap_u64]; omega
  have e2 : shr .u32 (B : Int) (i : Int) = ((B / 2 ^ i : Nat) : Int) := by
    unfold shr
    rw [Int.toNat_natCast, show IntKind.bits .u32 = 32 from rfl, Nat.min_eq_left (by omega)]
    simp
  have hlt : B / 2 ^ i < 4294967296 := Nat.lt_of_le_of_lt (Nat.div_le_self _ _) hB
  rw [e1, e2, show (1 : Int) = ((1 : Nat) : Int) from rfl, u32_and_nat _ 1 hlt (by decide), Nat.and_one_is_mod]
  omega
theorem burst_l0 (b : List Int) (hb : ∀ y ∈ b, 0 ≤ y ∧ y ≤ 255) (B s : Nat) (hB : B < 4294967296) (hB0 : B ≠ 0) (hs : s + 31 < 8 * b.length) (hl : b.length ≤ 300) (d : Nat) : ∀ (k i : Nat) (c : List Int), i + d = 32 → c.length = b.length → (∀ y ∈ c, 0 ≤ y ∧ y ≤ 255) → num (nat c) = num (nat b) ^^^ ((B % 2 ^ i) * 2 ^ s) →
    letterboxlaw04_CrcBurst.l0 (k + d + 1) b (B : Int) (s : Int) c (i : Int) = some true := by
  induction d with
  | zero =>
    intro k i c hi hc hcb hn
    have : i = 32 := by omega
    subst this
    rw [letterboxlaw04_CrcBurst.l0, if_neg (by omega), Of_eq b hb, Of_eq c hcb]
    simp only [Option.bind_some]
    have ne : sum 0 b ≠ sum 0 c := by
      intro h
      rw [Nat.mod_eq_of_lt (by omega : B < 2 ^ 32)] at hn
      exact hB0 (crcs_ne _ _ _ (nat_lt hb) (nat_lt hcb) (by simp [nat, hc]) B s (by omega) (by simp [nat]; omega) hn (sum_inj h).symm)
    simp only [Option.some.injEq, bne_iff_ne, ne_eq]
    omega
  | succ d ih =>
    intro k i c hi hc hcb hn
    rw [show k + (d + 1) + 1 = (k + d + 1) + 1 by omega, letterboxlaw04_CrcBurst.l0, if_pos (by omega), if_pos (by rw [IntKind.wrap_u64]; omega), w64 (x := (i : Int) + 1) (by omega) (by omega)]
    by_cases hbit : B / 2 ^ i % 2 = 1
    · rw [if_pos ((bit_test B i hB (by omega)).2 hbit), w64 (x := (s : Int) + (i : Int)) (by omega) (by omega)]
      have hq : wrap64 (Int.tdiv ((s : Int) + (i : Int)) 8) = (((s + i) / 8 : Nat) : Int) := by
        rw [tdiv_pos (by omega), w64 (by omega) (by omega)]; omega
      have hr : IntKind.u64.wrap (Int.tmod ((s : Int) + (i : Int)) 8) = (((s + i) % 8 : Nat) : Int) := by
        rw [tmod_pos (by omega), IntKind.wrap_u64]; omega
      rw [hq, hr, if_pos (by omega), if_pos (by omega), if_pos (by omega)]
      have hm : (s + i) % 8 < 8 := Nat.mod_lt _ (by decide)
      have hsh : shl .u8 1 (((s + i) % 8 : Nat) : Int) = ((2 ^ ((s + i) % 8) : Nat) : Int) := by
        have all : ∀ j : Nat, j < 8 → shl .u8 1 (j : Int) = ((2 ^ j : Nat) : Int) := by decide
        exact all _ hm
      rw [hsh, Int.toNat_natCast]
      have hd : 2 ^ ((s + i) % 8) < 256 := by
        have := Nat.pow_lt_pow_right (a := 2) (by decide) hm
        exact this
      have hS := set_num c hcb ((s + i) / 8) (2 ^ ((s + i) % 8)) (by omega) hd
      have e := ih k (i + 1) (c.set ((s + i) / 8) (Go.bits .xor .u8 (rd c (((s + i) / 8 : Nat) : Int)) ((2 ^ ((s + i) % 8) : Nat) : Int))) (by omega) (by rw [List.length_set]; exact hc) (set_bytes hcb hS.2) (by
        rw [hS.1, hn, burst_more B i s hbit, Nat.xor_assoc, ← Nat.pow_add, show (s + i) % 8 + 8 * ((s + i) / 8) = s + i by omega])
      exact e
    · rw [if_neg (fun h => hbit ((bit_test B i hB (by omega)).1 h))]
      exact ih k (i + 1) c (by omega) hc hcb (by rw [hn, burst_less B i hbit])

theorem CrcBurst : letterboxlaw04_CrcBurst.Pure := by
  intro b a1 a2 _ _ h3 h4 h5
  have hb : ∀ y ∈ b, 0 ≤ y ∧ y ≤ 255 := fun y hy => wf_u8 (h3 y hy)
  have hat := wf_u16 h4
  have hB := wf_u32 h5
  obtain ⟨at_, rfl⟩ := Int.eq_ofNat_of_zero_le hat.1
  obtain ⟨B, rfl⟩ := Int.eq_ofNat_of_zero_le hB.1
  refine ⟨34, ?_⟩
  unfold letterboxlaw04_CrcBurst.f letterboxlaw04_awake.f
  rw [Option.bind_some, if_pos rfl]
  have jt : letterboxlaw04_CrcBurst.j0 34 b (at_ : Int) (B : Int) true = some true := by rw [letterboxlaw04_CrcBurst.j0, if_pos rfl]
  split
  · exact jt
  · rename_i h5
    split
    · exact jt
    · rename_i h300
      by_cases hz : B = 0
      · subst hz; exact jt
      · rw [show (((B : Nat) : Int) == 0) = false from beq_eq_false_iff_ne.2 (by omega), letterboxlaw04_CrcBurst.j0, if_neg (by decide)]
        have e1 : wrap64 (8 * (b.length : Int)) = 8 * (b.length : Int) := w64 (by omega) (by omega)
        have e2 : wrap64 (8 * (b.length : Int) - 31) = ((8 * b.length - 31 : Nat) : Int) := by rw [w64 (by omega) (by omega)]; omega
        rw [e1, e2, if_neg (by omega), if_pos (by simp; omega), w64 (by omega) (by omega), List.nil_append, tmod_nat]
        have hlt : at_ % (8 * b.length - 31) < 8 * b.length - 31 := Nat.mod_lt _ (by omega)
        exact burst_l0 b hb B _ (by omega) hz (by omega) (by omega) 32 0 0 b (by omega) rfl hb (by simp [Nat.mod_one])
end Go.Proofs.Yteakllmajhnhpaa.Pure
