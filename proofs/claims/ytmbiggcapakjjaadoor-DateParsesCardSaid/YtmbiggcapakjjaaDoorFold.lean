-- Cut by a program of this session (wip/tools/prunew.py): what this claim does not need is left out.
import Derived.Test.YtmbiggcapakjjaaDoorSplA
import Derived.Test.YtmbiggcapakjjaaDoorPx11
set_option linter.unusedVariables false
set_option linter.unusedSimpArgs false
set_option linter.unusedSectionVars false
namespace Go.Proofs.YtmbiggcapakjjaaDoor.Chars
open Go.RowKit Go.Proofs.YtmbiggcapakjjaaDoor.P Go.Proofs.YtmbiggcapakjjaaDoorW.PrintWords Go.Proofs.YtmbiggcapakjjaaDoorW.PrintLast Go.Proofs.YtmbiggcapakjjaaDoor.Aids
def low (c : Int) : Int := if 65 ≤ c ∧ c ≤ 90 then c + 32 else c
theorem of_bytes {p : Int → Prop} (all : ∀ y : Fin 256, p (y.val : Int)) {c : Int} (h : 0 ≤ c ∧ c ≤ 255) : p c := by
  have := all ⟨c.toNat, by omega⟩
  rwa [show ((⟨c.toNat, by omega⟩ : Fin 256).val : Int) = c from Int.toNat_of_nonneg h.1] at this
theorem low_is {c : Int} (h : 0 ≤ c ∧ c ≤ 255) : chars_Fold.low c = low c := of_bytes (p := fun c => chars_Fold.low c = low c) (by decide +kernel) h
theorem rlow {c : Int} (h : 0 ≤ c ∧ c ≤ 255) : Ev (fun k => letterboxref01_Lower.f k c) (low c) :=
  evk (fun k => letterboxref01_Lower.mono c k) 40 (of_bytes (p := fun c => letterboxref01_Lower.f 40 c = some (low c)) (by decide +kernel) h)
theorem low_byte {c : Int} (h : 0 ≤ c ∧ c ≤ 255) : 0 ≤ low c ∧ low c ≤ 255 := by unfold low; split <;> omega
def lows (l : List Int) : List Int := l.map low
theorem lows_byte {l : List Int} (h : byte l) : byte (lows l) := by
  intro c hc
  obtain ⟨x, hx, rfl⟩ := List.mem_map.1 hc
  exact low_byte (h x hx)
theorem lows_length (l : List Int) : (lows l).length = l.length := List.length_map ..
theorem folded (l : List Int) (h : byte l) (hl : l.length ≤ 1000000) : chars_Fold.f (strOfNums l) = some (strOfNums (lows l)) := by
  unfold chars_Fold.f
  rw [if_pos (by rw [strOfNums_size]; omega), bytes_str l h]
  unfold lows
  rw [List.map_congr_left fun c hc => low_is (h c hc)]
section
variable (l : List Int) (hb : byte l) (hl : l.length ≤ 1000000)
include hb hl
theorem rfold_l0 (d : Nat) : ∀ (i : Nat) (acc : List Int), l.length - i ≤ d → i ≤ l.length → acc.length ≤ i → Ev (fun k => letterboxref01_Fold.l0 k (strOfNums l) acc (i : Int)) (strOfNums (acc ++ lows (l.drop i))) := by
  have stop : ∀ acc : List Int, Ev (fun k => letterboxref01_Fold.l0 k (strOfNums l) acc (l.length : Int)) (strOfNums (acc ++ lows (l.drop l.length))) := by
    intro acc
    refine st (fun k => by rw [letterboxref01_Fold.l0]) ?_
    simp only [strOfNums_size]
    refine no (by omega) (fin ?_)
    rw [List.drop_eq_nil_of_le (Nat.le_refl _)]; simp [lows]
  induction d with
  | zero =>
    intro i acc hd hi ha
    have e : i = l.length := by omega
    subst e; exact stop acc
  | succ d ih =>
    intro i acc hd hi ha
    rcases Nat.lt_or_ge i l.length with hlt | hge
    · have e1 : wrap64 ((i : Int) + 1) = ((i + 1 : Nat) : Int) := by rw [w64 (by omega) (by omega)]; omega
      have hx := hb _ (rd_mem l i hlt)
      have go := ih (i + 1) (acc ++ [low (rd l (i : Int))]) (by omega) hlt (by simp; omega)
      refine st (fun k => by rw [letterboxref01_Fold.l0]) ?_
      rw [drop_rd l i hlt]
      simp only [strOfNums_size, str_bt _ hb, e1]
      clear e1
      refine yes (by omega) (yes (by omega) (bnd (rlow hx) (yes (by omega) (toE go ?_))))
      simp [lows]
    · have e : i = l.length := by omega
      subst e; exact stop acc
theorem rfolded : Ev (fun k => letterboxref01_Fold.f k (strOfNums l)) (strOfNums (lows l)) := by
  have := rfold_l0 l hb hl l.length 0 [] (by omega) (by omega) (by simp)
  unfold letterboxref01_Fold.f
  simpa using this
end
end Go.Proofs.YtmbiggcapakjjaaDoor.Chars
