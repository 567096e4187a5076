/- Fields one behind the other, in plain words. -/
import Derived.Test.YtckmfmfhhojmfaaEvs
import Derived.Test.YtckmfmfhhojmfaaPx0
set_option linter.unusedVariables false
namespace Go.Proofs.Ytckmfmfhhojmfaa.Chn
open Go.RowKit Go.Proofs.Ytckmfmfhhojmfaa.P Go.Proofs.YtckmfmfhhojmfaaW.PrintWords Go.Proofs.YtckmfmfhhojmfaaW.PrintLast Go.Proofs.YtckmfmfhhojmfaaW.PrintMore Go.Proofs.Ytckmfmfhhojmfaa.Aids
/-- a field of the bytes b -/
def fld (b : List Int) (x : S31) : Prop := x.f1 < x.f2 ∧ x.f2 ≤ x.f3 ∧ 0 < x.f0.size ∧ x.f0.size ≤ b.length ∧ 1 ≤ x.f2 ∧ x.f2 ≤ (b.length : Int) ∧ rd b (x.f2 - 1) = 58
/-- fields from p on, up to q -/
def chain (b : List Int) : Int → List S31 → Int → Prop
  | p, [], q => p ≤ q
  | p, x :: t, q => p ≤ x.f1 ∧ fld b x ∧ chain b x.f3 t q
theorem chain_le {b : List Int} : ∀ {l : List S31} {p q q' : Int}, chain b p l q → q ≤ q' → chain b p l q'
  | [], p, q, q', h, h' => Int.le_trans h h'
  | x :: t, p, q, q', h, h' => ⟨h.1, h.2.1, chain_le h.2.2 h'⟩
theorem chain_snoc {b : List Int} (x : S31) (hx : fld b x) : ∀ {l : List S31} {p q : Int}, chain b p l q → q ≤ x.f1 → chain b p (l ++ [x]) x.f3
  | [], p, q, h, h' => ⟨Int.le_trans h h', hx, Int.le_refl _⟩
  | y :: t, p, q, h, h' => ⟨h.1, h.2.1, chain_snoc x hx h.2.2 h'⟩
theorem chain_last {b : List Int} (x : S31) (y : Int) : ∀ {l : List S31} {p q : Int}, chain b p (l ++ [x]) q → q ≤ y → chain b p (l ++ [(⟨x.f0, x.f1, x.f2, y⟩ : S31)]) y
  | [], p, q, h, h' => by
    obtain ⟨h1, h2, h3⟩ := h
    have h3' : x.f3 ≤ q := h3
    exact ⟨h1, ⟨h2.1, by have := h2.2.1; show x.f2 ≤ y; omega, h2.2.2⟩, Int.le_refl _⟩
  | z :: t, p, q, h, h' => ⟨h.1, h.2.1, chain_last x y h.2.2 h'⟩
end Go.Proofs.Ytckmfmfhhojmfaa.Chn
