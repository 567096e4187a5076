/- The law CrcOf holds of every sum and every row of bytes: the program's sum by tables of four bits is the document's, bit by bit. No condition. -/
import Derived.Test.YteakllmajhnhpaaSum
import Derived.Test.YteakllmajhnhpaaPx2
namespace Go.Proofs.Yteakllmajhnhpaa.Pure
open Go.RowKit Go.Proofs.Yteakllmajhnhpaa.P Go.Proofs.YteakllmajhnhpaaW.PrintWords Go.Proofs.YteakllmajhnhpaaW.PrintLast Go.Proofs.Yteakllmajhnhpaa.Aids Go.Proofs.Yteakllmajhnhpaa.Crc

theorem CrcOf : letterboxlaw04_CrcOf.Pure := by
  intro a0 l1 h0 _ h2 h3
  have hb : ∀ y ∈ l1, 0 ≤ y ∧ y ≤ 255 := fun y hy => wf_u8 (h3 y hy)
  have hx := wf_u32 h0
  obtain ⟨x, rfl⟩ := Int.eq_ofNat_of_zero_le hx.1
  refine ⟨10 * l1.length + 1, ?_⟩
  unfold letterboxlaw04_CrcOf.f letterboxlaw04_awake.f
  rw [Option.bind_some, if_pos rfl]
  split
  · rfl
  · rw [More_eq x l1 (by omega) hb, ref_More_eq x l1 (by omega) (by omega) hb _ (Nat.le_refl _), Of_eq l1 hb, ref_Of_eq l1 (by omega) hb _ (Nat.le_refl _)]
    simp
end Go.Proofs.Yteakllmajhnhpaa.Pure
