/- The law CrcParts holds of every sum and any two rows of bytes: the sum of bytes is that of their parts, one behind the other. No condition. -/
import Derived.Test.YteakllmajhnhpaaSum
import Derived.Test.YteakllmajhnhpaaPx2
namespace Go.Proofs.Yteakllmajhnhpaa.Pure
open Go.RowKit Go.Proofs.Yteakllmajhnhpaa.P Go.Proofs.YteakllmajhnhpaaW.PrintWords Go.Proofs.YteakllmajhnhpaaW.PrintLast Go.Proofs.Yteakllmajhnhpaa.Aids Go.Proofs.Yteakllmajhnhpaa.Crc

theorem twice (x : Nat) : 4294967295 ^^^ (4294967295 ^^^ x) = x := by rw [← Nat.xor_assoc, Nat.xor_self, Nat.zero_xor]
theorem parts (x : Nat) (l m : List Int) : sum (sum x l) m = sum x (l ++ m) := by
  unfold sum
  rw [twice, show nat (l ++ m) = nat l ++ nat m from List.map_append, crcs_append]

theorem CrcParts : letterboxlaw04_CrcParts.Pure := by
  intro a0 l1 l2 h0 _ h2 h3 _ h5 h6
  have hb : ∀ y ∈ l1, 0 ≤ y ∧ y ≤ 255 := fun y hy => wf_u8 (h3 y hy)
  have hb2 : ∀ y ∈ l2, 0 ≤ y ∧ y ≤ 255 := fun y hy => wf_u8 (h6 y hy)
  have hx := wf_u32 h0
  obtain ⟨x, rfl⟩ := Int.eq_ofNat_of_zero_le hx.1
  refine ⟨1, ?_⟩
  unfold letterboxlaw04_CrcParts.f letterboxlaw04_awake.f
  rw [Option.bind_some, if_pos rfl]
  have j0 : ∀ b, (b = false → l1.length ≤ 500 ∧ l2.length ≤ 500) → letterboxlaw04_CrcParts.j0 1 (x : Int) l1 l2 b = some true := by
    intro b hlen
    rw [letterboxlaw04_CrcParts.j0]
    cases b with
    | true => rw [if_pos rfl]
    | false =>
      have hl := hlen rfl
      rw [if_neg (by decide), if_pos (by simp; omega), Option.bind_some, List.nil_append, if_pos (by omega), More_eq x l1 (by omega) hb]
      simp only [Option.bind_some]
      rw [More_eq _ l2 (sum_lt x l1 (by omega) hb) hb2, More_eq x (l1 ++ l2) (by omega) (fun y hy => by rcases List.mem_append.1 hy with h | h; exact hb y h; exact hb2 y h), More_eq x [] (by omega) (fun y hy => by cases hy)]
      simp only [Option.bind_some]
      rw [if_pos (by rw [parts])]
      have : sum x [] = x := twice x
      rw [this]
      simp
  split
  · exact j0 true (fun h => by cases h)
  · exact j0 _ (fun h => by have := of_decide_eq_false h; omega)
end Go.Proofs.Yteakllmajhnhpaa.Pure
