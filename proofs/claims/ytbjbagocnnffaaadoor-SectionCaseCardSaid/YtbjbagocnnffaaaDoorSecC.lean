/- The document's test whether two specs are the same. -/
import Derived.Test.YtbjbagocnnffaaaDoorSecA
import Derived.Test.YtbjbagocnnffaaaDoorPx10
set_option linter.unusedVariables false
set_option linter.unusedSimpArgs false
set_option linter.unusedSectionVars false
namespace Go.Proofs.YtbjbagocnnffaaaDoor.Sec
open Go.RowKit Go.Proofs.YtbjbagocnnffaaaDoor.P Go.Proofs.YtbjbagocnnffaaaDoorW.PrintWords Go.Proofs.YtbjbagocnnffaaaDoorW.PrintLast Go.Proofs.YtbjbagocnnffaaaDoor.Aids Go.Proofs.YtbjbagocnnffaaaDoor.Chars
/-! are two the same -/
theorem same_ok (p : List Int) (q : Int) (nm : List ByteArray) (cut : Bool) (fr mn : Int) (h1 : p.length ≤ 1000000) (h2 : nm.length ≤ 1000000) : Ev (fun k => letterboxref15_Same.f k p q nm cut fr mn p q nm cut fr mn) true := by
  have l1 : ∀ (d i : Nat), nm.length - i ≤ d → i ≤ nm.length → Ev (fun k => letterboxref15_Same.l1 k (i : Int) p q nm cut fr mn p q nm cut fr mn) true := by
    intro d
    induction d with
    | zero =>
      intro i hd hi
      refine st (fun k => by rw [letterboxref15_Same.l1]) ?_
      exact no (by omega) (fin rfl)
    | succ d ih =>
      intro i hd hi
      rcases Nat.lt_or_ge i nm.length with hlt | hge
      · refine st (fun k => by rw [letterboxref15_Same.l1]) ?_
        have e1 := wr1 (i := i) (by omega)
        simp only [e1]
        exact yes (by omega) (yes (by omega) (yes (by omega) (yes trivial (ih (i + 1) (by omega) hlt))))
      · exact ih i (by omega) hi
  have l0 : ∀ (d i : Nat), p.length - i ≤ d → i ≤ p.length → Ev (fun k => letterboxref15_Same.l0 k (i : Int) p q nm cut fr mn p q nm cut fr mn) true := by
    intro d
    induction d with
    | zero =>
      intro i hd hi
      refine st (fun k => by rw [letterboxref15_Same.l0]) ?_
      exact no (by omega) (l1 nm.length 0 (by omega) (by omega))
    | succ d ih =>
      intro i hd hi
      rcases Nat.lt_or_ge i p.length with hlt | hge
      · refine st (fun k => by rw [letterboxref15_Same.l0]) ?_
        have e1 := wr1 (i := i) (by omega)
        simp only [e1]
        exact yes (by omega) (yes (by omega) (yes (by omega) (yes trivial (ih (i + 1) (by omega) hlt))))
      · exact ih i (by omega) hi
  unfold letterboxref15_Same.f
  refine yes rfl (no (by simp) (yes rfl (yes rfl (yes rfl ?_))))
  refine st (fun k => by rw [letterboxref15_Same.j0]) ?_
  exact no (by simp) (l0 p.length 0 (by omega) (by omega))
end Go.Proofs.YtbjbagocnnffaaaDoor.Sec
