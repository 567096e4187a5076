/- Fields of some names and the others are all: the lengths, in plain words. -/
import Derived.Test.YtckmfmfhhojmfaaPx3
set_option linter.unusedVariables false
set_option linter.unusedSimpArgs false
namespace Go.Proofs.Ytckmfmfhhojmfaa.Ord
open Go.RowKit Go.Proofs.Ytckmfmfhhojmfaa.P
def so_sz (l0 : List Int) (l2 : List ByteArray) (but : Bool) : List S31 → Nat
  | [] => 0
  | x :: t => (if ((l2.any fun n => sm x.f0 n) == but || !so_in l0 x) = true then 0 else (so_cut l0 x).length + (so_end l0 x).length) + so_sz l0 l2 but t
theorem so_sz_cons (l0 : List Int) (l2 : List ByteArray) (but : Bool) (x : S31) (t : List S31) : so_sz l0 l2 but (x :: t) = (if ((l2.any fun n => sm x.f0 n) == but || !so_in l0 x) = true then 0 else (so_cut l0 x).length + (so_end l0 x).length) + so_sz l0 l2 but t := rfl
theorem so_len (l0 : List Int) (l2 : List ByteArray) (but : Bool) : ∀ (l : List S31) (acc : List Int), (l.foldl (so_step l0 l2 but) acc).length = acc.length + so_sz l0 l2 but l
  | [], acc => by simp [so_sz]
  | x :: t, acc => by
    rw [List.foldl_cons, so_len l0 l2 but t]
    rw [so_sz_cons]
    unfold so_step
    by_cases h : ((l2.any fun n => sm x.f0 n) == but || !so_in l0 x) = true
    · rw [if_pos h, if_pos h]; omega
    · rw [if_neg h, if_neg h, List.length_append, List.length_append]; omega
theorem so_sum (l0 : List Int) (l2 : List ByteArray) : ∀ l : List S31, so_sz l0 l2 false l + so_sz l0 l2 true l = so_sz l0 [] true l
  | [] => rfl
  | x :: t => by
    have ih := so_sum l0 l2 t
    rw [so_sz_cons, so_sz_cons, so_sz_cons]
    cases hi : so_in l0 x with
    | false => simp; omega
    | true =>
      cases ha : (l2.any fun n => sm x.f0 n) with
      | false => simp; omega
      | true => simp; omega
theorem so_all_len (l0 : List Int) (l1 : List S31) (l2 : List ByteArray) : (so_all l0 l1 l2 false).length + (so_all l0 l1 l2 true).length = (so_all l0 l1 [] true).length + 2 := by
  unfold so_all
  have := so_sum l0 l2 l1
  simp only [List.length_append, so_len, List.length_nil, List.length_cons]
  omega
end Go.Proofs.Ytckmfmfhhojmfaa.Ord
