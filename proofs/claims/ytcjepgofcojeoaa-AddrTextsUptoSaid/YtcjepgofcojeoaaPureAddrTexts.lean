/- The law AddrTexts holds of addresses whose parts fit: their text is the document's. -/
import Derived.Test.YtcjepgofcojeoaaAd6
import Derived.Test.YtcjepgofcojeoaaPx8
set_option linter.unusedVariables false
set_option linter.unusedSimpArgs false
set_option linter.unusedSectionVars false
namespace Go.Proofs.Ytcjepgofcojeoaa.Pure
open Go.RowKit Go.Proofs.Ytcjepgofcojeoaa.P Go.Proofs.YtcjepgofcojeoaaW.PrintWords Go.Proofs.YtcjepgofcojeoaaW.PrintLast Go.Proofs.Ytcjepgofcojeoaa.Aids Go.Proofs.Ytcjepgofcojeoaa.Ad
theorem awakeT : Ev (fun k => letterboxlaw10_awake.f k) true := evk (fun k => letterboxlaw10_awake.mono k) 60 (by decide +kernel)
theorem rdTt (l : List S27) (i : Nat) (h : i < l.length) : rd_T27 l (i : Int) = l[i] := by
  unfold rd_T27
  rw [Int.toNat_natCast, List.getD_eq_getElem?_getD, List.getElem?_eq_getElem h]; rfl
theorem texts_l0 (l : List S27) (hf : ∀ a ∈ l, fits a) (hl : l.length ≤ 20) (m : Nat) : ∀ i : Nat, l.length - i ≤ m → i ≤ l.length → Ev (fun k => letterboxlaw10_AddrTexts.l0 k l ((l.take i).map cv) (i : Int)) true := by
  have stop : Ev (fun k => letterboxlaw10_AddrTexts.l0 k l ((l.take l.length).map cv) (l.length : Int)) true := by
    rw [List.take_length]
    refine st (fun k => by rw [letterboxlaw10_AddrTexts.l0]) ?_
    refine no (by omega) (bnd (textok l hf (by omega)) (bnd (rtext l hf (by omega)) (fin ?_)))
    rw [beq_self_eq_true]
  induction m with
  | zero =>
    intro i h1 h2
    obtain rfl : i = l.length := by omega
    exact stop
  | succ m ih =>
    intro i h1 h2
    rcases Nat.lt_or_ge i l.length with hlt | hge
    · have e1 := wr1 (i := i) (by omega)
      have hn := ih (i + 1) (by omega) hlt
      rw [List.take_succ_eq_append_getElem hlt, List.map_append] at hn
      refine st (fun k => by rw [letterboxlaw10_AddrTexts.l0]) ?_
      rw [rdTt l i hlt]
      simp only [e1]
      clear e1
      exact yes (by omega) (yes (by omega) (yes (by rw [List.length_map, List.length_take]; omega) hn))
    · obtain rfl : i = l.length := by omega
      exact stop
theorem AddrTexts (l : List S27) (hf : ∀ a ∈ l, fits a) : ∃ k, letterboxlaw10_AddrTexts.f k l = some true := by
  refine Ev.rounds (g := fun k => letterboxlaw10_AddrTexts.f k l) ?_
  unfold letterboxlaw10_AddrTexts.f
  refine bnd awakeT (yes rfl ?_)
  by_cases h : (l.length : Int) > 20
  · exact yes h (fin rfl)
  · exact no h (texts_l0 l hf (by omega) l.length 0 (Nat.le_refl _) (Nat.zero_le _))
end Go.Proofs.Ytcjepgofcojeoaa.Pure
