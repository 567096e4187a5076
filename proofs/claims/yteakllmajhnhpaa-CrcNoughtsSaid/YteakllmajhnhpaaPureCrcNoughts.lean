/- The law CrcNoughts holds of every sum, byte and number of bytes: the program's sum of so many alike bytes is the document's. No condition. -/
import Derived.Test.YteakllmajhnhpaaSum
import Derived.Test.YteakllmajhnhpaaPx3
namespace Go.Proofs.Yteakllmajhnhpaa.Pure
open Go.RowKit Go.Proofs.Yteakllmajhnhpaa.P Go.Proofs.YteakllmajhnhpaaW.PrintWords Go.Proofs.YteakllmajhnhpaaW.PrintLast Go.Proofs.Yteakllmajhnhpaa.Aids Go.Proofs.Yteakllmajhnhpaa.Crc

theorem noughts_l0 (x : Nat) (hx : x < 4294967296) (c : Int) (hc : 0 ≤ c ∧ c ≤ 255) (d : Nat) : ∀ (k i : Nat) (l : List Int), l.length ≤ 255 → (∀ y ∈ l, 0 ≤ y ∧ y ≤ 255) → i + d = l.length →
    letterboxlaw04_CrcNoughts.l0 (k + 10 * l.length + 2 + d) (x : Int) c l (i : Int) = some true := by
  induction d with
  | zero =>
    intro k i l hl hb hi
    rw [show k + 10 * l.length + 2 + 0 = (k + 10 * l.length + 1) + 1 by omega, letterboxlaw04_CrcNoughts.l0, if_neg (by omega), More_eq x l hx hb, ref_More_eq x l hx (by omega) hb _ (by omega)]
    simp
  | succ d ih =>
    intro k i l hl hb hi
    rw [show k + 10 * l.length + 2 + (d + 1) = (k + 10 * l.length + 2 + d) + 1 by omega, letterboxlaw04_CrcNoughts.l0, if_pos (by omega), if_pos (by omega), w64 (by omega) (by omega)]
    have e := ih k (i + 1) (l.set (i : Int).toNat c) (by rw [List.length_set]; exact hl) (fun y hy => by
      rcases List.mem_or_eq_of_mem_set hy with h | h
      · exact hb y h
      · rw [h]; exact hc) (by rw [List.length_set]; omega)
    rw [List.length_set] at e
    exact e

theorem CrcNoughts : letterboxlaw04_CrcNoughts.Pure := by
  intro a0 a1 a2 h0 h1 h2
  have hx := wf_u32 h0
  have hc := wf_u8 h1
  have hn := wf_u8 h2
  obtain ⟨x, rfl⟩ := Int.eq_ofNat_of_zero_le hx.1
  obtain ⟨n, rfl⟩ := Int.eq_ofNat_of_zero_le hn.1
  refine ⟨0 + 10 * n + 2 + n, ?_⟩
  unfold letterboxlaw04_CrcNoughts.f letterboxlaw04_awake.f
  rw [Option.bind_some, if_pos rfl, w64 (by omega) (by omega), if_pos (by omega), if_pos (by omega), Int.toNat_natCast]
  have e := noughts_l0 x (by omega) a1 hc n 0 0 (List.replicate n 0) (by rw [List.length_replicate]; omega) (fun y hy => by rw [List.eq_of_mem_replicate hy]; omega) (by rw [List.length_replicate]; omega)
  rw [List.length_replicate] at e
  exact e
end Go.Proofs.Yteakllmajhnhpaa.Pure
