/- A line's name, in plain words: if there is one it isn't empty, and a colon stands behind it. -/
import Derived.Test.YtckmfmfhhojmfaaEvs
import Derived.Lib.IndexLaws
import Derived.Test.YtckmfmfhhojmfaaPx2
set_option linter.unusedVariables false
set_option linter.unusedSimpArgs false
namespace Go.Proofs.Ytckmfmfhhojmfaa.Nam
open Go.RowKit Go.Proofs.Ytckmfmfhhojmfaa.P Go.Proofs.YtckmfmfhhojmfaaW.PrintWords Go.Proofs.YtckmfmfhhojmfaaW.PrintLast Go.Proofs.YtckmfmfhhojmfaaW.PrintMore Go.Proofs.Ytckmfmfhhojmfaa.Aids
/-- what a name's answer says -/
def Fine (s : ByteArray) (i : Nat) (r : ByteArray × Int × Bool) : Prop := r.2.2 = true → 0 < r.1.size ∧ r.1.size ≤ i ∧ r.2.1 = (i : Int) + 1
theorem l1_ok (s : ByteArray) (hs : s.size ≤ 100000) (i m : Nat) (hm : m ≤ i) (hi : i < s.size) : ∀ (d j : Nat), m - j ≤ d → j ≤ m → ∃ r, Ev (fun k => header_named.l1 k s (i : Int) (m : Int) (m : Int) (j : Int)) r ∧ Fine s i r := by
  intro d
  induction d with
  | zero =>
    intro j h1 h2
    refine ⟨(s.extract 0 m, (i : Int) + 1, decide ((m : Int) > 0)), ?_, ?_⟩
    · refine st (fun k => by rw [header_named.l1]) ?_
      refine no (by omega) ?_
      refine yes (by omega) ?_
      refine yes (by omega) ?_
      refine fin ?_
      rw [Int.toNat_natCast, show wrap64 ((i : Int) + 1) = (i : Int) + 1 by unfold wrap64; omega]
    · intro h
      have h' := of_decide_eq_true h
      refine ⟨?_, ?_, rfl⟩
      · show 0 < (s.extract 0 m).size; rw [ByteArray.size_extract]; omega
      · show (s.extract 0 m).size ≤ i; rw [ByteArray.size_extract]; omega
  | succ d ih =>
    intro j h1 h2
    by_cases hj : j < m
    · obtain ⟨r, hr, hf⟩ := ih (j + 1) (by omega) (by omega)
      by_cases c1 : bt s (j : Int) < 33
      · refine ⟨(⟨#[]⟩, 0, false), ?_, fun h => by cases h⟩
        refine st (fun k => by rw [header_named.l1]) ?_
        refine yes (by omega) ?_
        refine yes (by omega) ?_
        refine yes (by omega) ?_
        exact yes c1 (fin rfl)
      by_cases c2 : bt s (j : Int) > 126
      · refine ⟨(⟨#[]⟩, 0, false), ?_, fun h => by cases h⟩
        refine st (fun k => by rw [header_named.l1]) ?_
        refine yes (by omega) ?_
        refine yes (by omega) ?_
        refine yes (by omega) ?_
        refine no c1 ?_
        exact yes c2 (fin rfl)
      refine ⟨r, ?_, hf⟩
      refine st (fun k => by rw [header_named.l1]) ?_
      refine yes (by omega) ?_
      refine yes (by omega) ?_
      refine yes (by omega) ?_
      refine no c1 ?_
      refine no c2 ?_
      rw [show wrap64 ((j : Int) + 1) = ((j + 1 : Nat) : Int) by unfold wrap64; omega]
      exact hr
    · exact ih j (by omega) h2
theorem j1_ok (s : ByteArray) (hs : s.size ≤ 100000) (i m : Nat) (hm : m ≤ i) (hi : i < s.size) : ∃ r, Ev (fun k => header_named.j1 k s (i : Int) (m : Int)) r ∧ Fine s i r := by
  obtain ⟨r, hr, hf⟩ := l1_ok s hs i m hm hi m 0 (by omega) (by omega)
  exact ⟨r, st (fun k => by rw [header_named.j1]; rfl) hr, hf⟩
theorem l0_ok (s : ByteArray) (hs : s.size ≤ 100000) (i : Nat) (hi : i < s.size) : ∀ m : Nat, m ≤ i → ∃ r, Ev (fun k => header_named.l0 k s (i : Int) (m : Int)) r ∧ Fine s i r := by
  intro m
  induction m with
  | zero =>
    intro h
    obtain ⟨r, hr, hf⟩ := j1_ok s hs i 0 h hi
    exact ⟨r, st (fun k => by rw [header_named.l0]) (no (by omega) hr), hf⟩
  | succ m ih =>
    intro h
    obtain ⟨r, hr, hf⟩ := j1_ok s hs i (m + 1) h hi
    obtain ⟨r2, hr2, hf2⟩ := ih (by omega)
    have hw : wrap64 (((m + 1 : Nat) : Int) - 1) = (m : Int) := by unfold wrap64; omega
    have hb : ∃ b, chars_Blank.f (bt s (m : Int)) = some b := by
      unfold chars_Blank.f
      by_cases h : bt s (m : Int) = 32
      · exact ⟨true, if_pos h⟩
      · exact ⟨_, if_neg h⟩
    obtain ⟨b, hb⟩ := hb
    cases b with
    | true =>
      refine ⟨r2, ?_, hf2⟩
      refine st (fun k => by rw [header_named.l0]) ?_
      rw [hw, hb]
      refine yes (by omega) ?_
      refine yes (by omega) ?_
      refine yes (by omega) ?_
      refine bs ?_
      exact yes rfl hr2
    | false =>
      refine ⟨r, ?_, hf⟩
      refine st (fun k => by rw [header_named.l0]) ?_
      rw [hw, hb]
      refine yes (by omega) ?_
      refine yes (by omega) ?_
      refine yes (by omega) ?_
      refine bs ?_
      exact no (by decide) hr
theorem named_ok (s : ByteArray) (hs : s.size ≤ 100000) : ∃ r, Ev (fun k => header_named.f k s) r ∧ (r.2.2 = true → ∃ i : Nat, i < s.size ∧ bt s (i : Int) = 58 ∧ 0 < r.1.size ∧ r.1.size ≤ i ∧ r.2.1 = (i : Int) + 1) := by
  unfold header_named.f
  rw [show strings_IndexByte.f s 58 = some (Lib.indexByte s.data.toList 58) from rfl]
  by_cases hn : Lib.indexByte s.data.toList 58 < 0
  · exact ⟨(⟨#[]⟩, 0, false), bs (yes hn (fin rfl)), fun h => by cases h⟩
  · obtain ⟨i, hi⟩ : ∃ i : Nat, Lib.indexByte s.data.toList 58 = (i : Int) := ⟨(Lib.indexByte s.data.toList 58).toNat, by omega⟩
    obtain ⟨h1, _⟩ := Lib.indexByte_some hi
    have hl : i < s.size := by
      rw [Lib.size_eq]; exact (List.getElem?_eq_some_iff.1 h1).1
    obtain ⟨r, hr, hf⟩ := l0_ok s hs i hl i (Nat.le_refl _)
    refine ⟨r, ?_, fun h => ⟨i, hl, ?_, (hf h).1, (hf h).2.1, (hf h).2.2⟩⟩
    · rw [hi]; exact bs (no (by omega) hr)
    · rw [bt_bytes]
      unfold rd bytesOf
      rw [Int.toNat_natCast, List.getD_eq_getElem?_getD, List.getElem?_map, h1]
      rfl
end Go.Proofs.Ytckmfmfhhojmfaa.Nam
