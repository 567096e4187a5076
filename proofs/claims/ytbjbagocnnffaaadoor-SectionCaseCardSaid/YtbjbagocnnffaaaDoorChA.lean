/- The document's example, and the place where the laws of bytes and texts of this chapter begin. -/
import Derived.Test.YtbjbagocnnffaaaDoorEvs
import Derived.Test.YtbjbagocnnffaaaDoorPx9
set_option linter.unusedVariables false
set_option linter.unusedSimpArgs false
set_option linter.unusedSectionVars false
namespace Go.Proofs.YtbjbagocnnffaaaDoor.Chars
open Go.RowKit Go.Proofs.YtbjbagocnnffaaaDoor.P Go.Proofs.YtbjbagocnnffaaaDoorW.PrintWords Go.Proofs.YtbjbagocnnffaaaDoorW.PrintLast Go.Proofs.YtbjbagocnnffaaaDoor.Aids
theorem awake : Ev (fun k => letterboxlaw15_awake.f k) true := evk (fun k => letterboxlaw15_awake.mono k) 60 (by decide +kernel)
def numL : List Int → Int → Option Int
  | [], n => some n
  | c :: t, n => if c < 48 then none else if c > 57 then none else numL t (10 * n + (c - 48))
def asNum : Option Int → Int × Bool
  | none => (0, false)
  | some n => if n > 4294967295 then (0, false) else (n, true)
def number (l : List Int) : Int × Bool := if l.length < 1 ∨ l.length > 10 ∨ (l.length > 1 ∧ rd l 0 = 48) then (0, false) else asNum (numL l 0)
theorem pow_cap {i : Nat} (h : i ≤ 10) : (10 : Int) ^ i ≤ 10000000000 := by
  have : (10 : Nat) ^ i ≤ 10 ^ 10 := Nat.pow_le_pow_right (by omega) h
  have h2 : ((10 ^ i : Nat) : Int) ≤ ((10 ^ 10 : Nat) : Int) := by exact_mod_cast this
  simpa using h2
section
variable (l : List Int) (hl : l.length ≤ 10) (hb : byte l)
include hl hb
theorem number_l0 (d : Nat) : ∀ (i : Nat) (n : Int), l.length - i ≤ d → i ≤ l.length → 0 ≤ n → n < 10 ^ i →
    Ev (fun k => chars_Number.l0 k (strOfNums l) n (l.length : Int) (i : Int)) (asNum (numL (l.drop i) n)) := by
  have stop : ∀ n : Int, Ev (fun k => chars_Number.l0 k (strOfNums l) n (l.length : Int) (l.length : Int)) (asNum (numL (l.drop l.length) n)) := by
    intro n
    refine st (fun k => by rw [chars_Number.l0]) (no (by omega) ?_)
    rw [List.drop_eq_nil_of_le (Nat.le_refl _), numL, asNum]
    by_cases h : n > 4294967295
    · exact yes h (fin (by rw [if_pos h]))
    · exact no h (fin (by rw [if_neg h]))
  induction d with
  | zero =>
    intro i n hd hi h0 h1
    have e : i = l.length := by omega
    subst e; exact stop n
  | succ d ih =>
    intro i n hd hi h0 h1
    rcases Nat.lt_or_ge i l.length with hlt | hge
    · have hc := pow_cap (i := i) (by omega)
      have hx := hb _ (rd_mem l i hlt)
      have e1 : wrap64 ((i : Int) + 1) = ((i + 1 : Nat) : Int) := by rw [w64 (by omega) (by omega)]; omega
      refine st (fun k => by rw [chars_Number.l0]) ?_
      rw [drop_rd l i hlt, numL]
      simp only [strOfNums_size, str_bt _ hb, e1]
      clear e1
      have ihs := ih (i + 1)
      generalize rd l (i : Int) = c at hx ihs ⊢
      refine yes (by omega) (yes (by omega) (yes (by omega) ?_))
      by_cases h48 : c < 48
      · rw [if_pos h48]; exact yes h48 (fin rfl)
      · by_cases h57 : c > 57
        · rw [if_neg h48, if_pos h57]; exact no h48 (yes h57 (fin rfl))
        · rw [if_neg h48, if_neg h57]
          have e2 : wrap64 (wrap64 (10 * n) + (c - 48) % 256) = 10 * n + (c - 48) := by
            rw [w64 (x := 10 * n) (by omega) (by omega), Int.emod_eq_of_lt (by omega) (by omega), w64 (by omega) (by omega)]
          rw [e2]
          refine no h48 (no h57 (ihs _ (by omega) hlt (by omega) ?_))
          rw [Int.pow_succ]; omega
    · have e : i = l.length := by omega
      subst e; exact stop n
end
theorem numbered (l : List Int) (hb : byte l) (hl : l.length ≤ 1000000) : Ev (fun k => chars_Number.f k (strOfNums l)) (number l) := by
  have bad : Ev (fun k => chars_Number.j0 k (strOfNums l) true) (0, false) := st (fun k => by rw [chars_Number.j0]) (yes rfl (fin rfl))
  have good : l.length ≤ 10 → Ev (fun k => chars_Number.j0 k (strOfNums l) false) (asNum (numL l 0)) := fun h => by
    refine st (fun k => by rw [chars_Number.j0]) (no (by simp) ?_)
    rw [strOfNums_size]
    exact number_l0 l h hb l.length 0 0 (by omega) (by omega) (by omega) (by simp)
  unfold chars_Number.f number
  simp only [strOfNums_size, str_bt _ hb]
  by_cases h1 : l.length < 1
  · rw [if_pos (.inl h1)]; exact yes (by omega) bad
  · refine no (by omega) ?_
    by_cases h2 : l.length > 10
    · rw [if_pos (.inr (.inl h2))]; exact yes (by omega) bad
    · refine no (by omega) ?_
      by_cases h3 : l.length > 1
      · refine yes (by omega) (yes (by omega) ?_)
        by_cases h4 : rd l 0 = 48
        · rw [if_pos (.inr (.inr ⟨h3, h4⟩)), h4]; exact bad
        · rw [if_neg (fun h => h.elim h1 (fun h => h.elim h2 (fun h => h4 h.2))), beq_eq_false_iff_ne.mpr h4]; exact good (by omega)
      · rw [if_neg (fun h => h.elim h1 (fun h => h.elim h2 (fun h => h3 h.1)))]
        exact no (by omega) (good (by omega))
def low (c : Int) : Int := if 65 ≤ c ∧ c ≤ 90 then c + 32 else c
theorem of_bytes {p : Int → Prop} (all : ∀ y : Fin 256, p (y.val : Int)) {c : Int} (h : 0 ≤ c ∧ c ≤ 255) : p c := by
  have := all ⟨c.toNat, by omega⟩
  rwa [show ((⟨c.toNat, by omega⟩ : Fin 256).val : Int) = c from Int.toNat_of_nonneg h.1] at this
theorem low_is {c : Int} (h : 0 ≤ c ∧ c ≤ 255) : chars_Fold.low c = low c := of_bytes (p := fun c => chars_Fold.low c = low c) (by decide +kernel) h
theorem low_byte {c : Int} (h : 0 ≤ c ∧ c ≤ 255) : 0 ≤ low c ∧ low c ≤ 255 := by unfold low; split <;> omega
theorem low_low {c : Int} (h : 0 ≤ c ∧ c ≤ 255) : low (low c) = low c := of_bytes (p := fun c => low (low c) = low c) (by decide +kernel) h
def lows (l : List Int) : List Int := l.map low
theorem lows_byte {l : List Int} (h : byte l) : byte (lows l) := by
  intro c hc
  obtain ⟨x, hx, rfl⟩ := List.mem_map.1 hc
  exact low_byte (h x hx)
theorem lows_lows {l : List Int} (h : byte l) : lows (lows l) = lows l := by
  unfold lows; rw [List.map_map]; exact List.map_congr_left fun c hc => low_low (h c hc)
theorem lows_length (l : List Int) : (lows l).length = l.length := List.length_map ..
theorem folded (l : List Int) (h : byte l) (hl : l.length ≤ 1000000) : chars_Fold.f (strOfNums l) = some (strOfNums (lows l)) := by
  unfold chars_Fold.f
  rw [if_pos (by rw [strOfNums_size]; omega), bytes_str l h]
  unfold lows
  rw [List.map_congr_left fun c hc => low_is (h c hc)]
theorem same (l m : List Int) (hl : byte l) (hm : byte m) (h1 : l.length ≤ 1000000) (h2 : m.length ≤ 1000000) : chars_Same.f (strOfNums l) (strOfNums m) = some (lows l == lows m) := by
  unfold chars_Same.f
  rw [folded l hl h1, folded m hm h2, Option.bind_some, Option.bind_some, toList_beq, bytes_str _ (lows_byte hl), bytes_str _ (lows_byte hm)]
end Go.Proofs.YtbjbagocnnffaaaDoor.Chars
