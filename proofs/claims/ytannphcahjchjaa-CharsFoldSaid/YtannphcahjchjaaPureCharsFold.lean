/- The law CharsFold holds of any text. -/
import Derived.Test.YtannphcahjchjaaFold
import Derived.Test.YtannphcahjchjaaPx3
set_option linter.unusedVariables false
set_option linter.unusedSimpArgs false
set_option linter.unusedSectionVars false
namespace Go.Proofs.Ytannphcahjchjaa.Pure
open Go.RowKit Go.Proofs.Ytannphcahjchjaa.P Go.Proofs.YtannphcahjchjaaW.PrintWords Go.Proofs.YtannphcahjchjaaW.PrintLast Go.Proofs.Ytannphcahjchjaa.Aids Go.Proofs.Ytannphcahjchjaa.Chars
theorem fold_rest (a : ByteArray) (i : Nat) (hi : i < a.size) (fl : Bool) : letterboxlaw01_CharsFold.rest a i (rd (bytesOf a) (i : Int)) fl = true := by
  have hl : i < (bytesOf a).length := by rw [size_bytes]; exact hi
  have hx := byte_bytes a _ (rd_mem (bytesOf a) i hl)
  have hat := rd_at (bytesOf a) i hl
  unfold letterboxlaw01_CharsFold.rest
  generalize rd (bytesOf a) (i : Int) = c at hx hat ⊢
  split
  · split
    · split
      · rename_i h1 h2 h3
        have e : (c - 32) % 256 = c - 32 := Int.emod_eq_of_lt (by omega) (by omega)
        have hb : byte ((bytesOf a).set i (c - 32)) := by
          intro x hx2
          rcases List.mem_or_eq_of_mem_set hx2 with h | h
          · exact byte_bytes a x h
          · omega
        unfold letterboxlaw01_CharsFold.q letterboxlaw01_CharsFold.s
        rw [e, bytes_str _ hb, List.map_set]
        have hlow : chars_Fold.low (c - 32) = c := by
          rw [low_is (by omega)]; unfold low; rw [if_pos (by omega)]; omega
        have hget : ((bytesOf a).map chars_Fold.low)[i]? = some c := by
          rw [List.getElem?_map, List.getElem?_eq_getElem hl, ← hat, Option.map_some, low_is hx]
          unfold low; rw [if_neg (by omega)]
        have hset : ((bytesOf a).map chars_Fold.low).set i c = (bytesOf a).map chars_Fold.low := by
          apply List.ext_getElem?
          intro j
          rw [List.getElem?_set]
          by_cases hj : i = j
          · subst hj; rw [if_pos rfl, hget, if_pos (by rw [List.length_map]; exact hl)]
          · rw [if_neg hj]
        rw [hlow, hset]; simp
      · rfl
    · rfl
  · rfl
theorem CharsFold : letterboxlaw01_CharsFold.Pure := by
  intro a0 a1 a2 h0 h1
  have hw := wf_u16 h1
  refine Ev.rounds (g := fun k => letterboxlaw01_CharsFold.f k a0 a1 a2) ?_
  show Ev (fun k => (letterboxlaw01_awake.f k).bind _) _
  refine bnd awake (yes rfl ?_)
  by_cases hs : 300 < a0.size
  · exact yes hs (fin rfl)
  · refine no hs ?_
    by_cases hz : a0.size = 0
    · exact yes hz (fin rfl)
    · exact no hz (yes hw (fin (fold_rest a0 _ (Nat.mod_lt _ (by omega)) a2)))
end Go.Proofs.Ytannphcahjchjaa.Pure
