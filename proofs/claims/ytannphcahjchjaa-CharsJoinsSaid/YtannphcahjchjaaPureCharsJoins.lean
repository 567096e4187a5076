/- The law CharsJoins holds of any text. -/
import Derived.Test.YtannphcahjchjaaSplit
import Derived.Test.YtannphcahjchjaaPx3
set_option linter.unusedVariables false
set_option linter.unusedSimpArgs false
set_option linter.unusedSectionVars false
namespace Go.Proofs.Ytannphcahjchjaa.Pure
open Go.RowKit Go.Proofs.Ytannphcahjchjaa.P Go.Proofs.YtannphcahjchjaaW.PrintWords Go.Proofs.YtannphcahjchjaaW.PrintLast Go.Proofs.Ytannphcahjchjaa.Aids Go.Proofs.Ytannphcahjchjaa.Chars
section
variable (s : ByteArray) (z : Int) (hz : 0 ≤ z ∧ z ≤ 255) (L : List (List Int)) (hs : s.size ≤ 500) (hL : ∀ p ∈ L, byte p) (hn : ∀ p ∈ L, ∀ x ∈ p, x ≠ z) (hlen : L.length ≤ 501) (h1 : 1 ≤ L.length)
include hz hs hL hn hlen h1
omit hz hL hn h1 in
theorem joins_l1 (i : Nat) (hi : i < L.length) (p : List Int) (hp : rdOf ByteArray.empty (strs L) (i : Int) = strOfNums p) (hbp : byte p) (hnp : ∀ x ∈ p, x ≠ z) (t : List Int) (ht : t.length + p.length ≤ 500) (h : Ev (fun k => letterboxlaw01_CharsJoins.l0 k s z (strs L) (strOfNums (t ++ p)) ((i + 1 : Nat) : Int)) true) (d : Nat) :
    ∀ j : Nat, p.length - j ≤ d → j ≤ p.length → Ev (fun k => letterboxlaw01_CharsJoins.l1 k s z (strs L) (strOfNums t) (i : Int) (j : Int)) true := by
  have e1 : wrap64 ((i : Int) + 1) = ((i + 1 : Nat) : Int) := by rw [w64 (by omega) (by omega)]; omega
  have hlL : (strs L).length = L.length := by simp [strs]
  have stop : ∀ j : Nat, j = p.length → Ev (fun k => letterboxlaw01_CharsJoins.l1 k s z (strs L) (strOfNums t) (i : Int) (j : Int)) true := by
    intro j hj
    refine st (fun k => by rw [letterboxlaw01_CharsJoins.l1]) ?_
    rw [hp]
    simp only [e1, str_append, strOfNums_size]
    exact yes (by omega) (yes (by omega) (no (by omega) (yes (by omega) h)))
  clear h
  induction d with
  | zero => intro j hd hj; exact stop j (by omega)
  | succ d ih =>
    intro j hd hj
    rcases Nat.lt_or_ge j p.length with hlt | hge
    · have e2 : wrap64 ((j : Int) + 1) = ((j + 1 : Nat) : Int) := by rw [w64 (by omega) (by omega)]; omega
      refine st (fun k => by rw [letterboxlaw01_CharsJoins.l1]) ?_
      rw [hp]
      simp only [e1, e2, str_append, strOfNums_size, str_bt _ hbp]
      clear e1 e2
      refine yes (by omega) (yes (by omega) (yes (by omega) (yes (by omega) ?_)))
      refine no (hnp _ (rd_mem _ _ hlt)) ?_
      exact ih (j + 1) (by omega) hlt
    · exact stop j (by omega)
theorem joins_l0 (d : Nat) : ∀ (i : Nat) (t : List Int), L.length - i ≤ d → i ≤ L.length → fin1 z t (L.drop i) (i == 0) = bytesOf s → Ev (fun k => letterboxlaw01_CharsJoins.l0 k s z (strs L) (strOfNums t) (i : Int)) true := by
  have hlL : (strs L).length = L.length := by simp [strs]
  have hl := size_bytes s
  induction d with
  | zero =>
    intro i t hd hi hf
    refine st (fun k => by rw [letterboxlaw01_CharsJoins.l0]) ?_
    rw [List.drop_eq_nil_of_le (by omega), fin1] at hf
    refine no (by omega) (yes ?_ (fin ?_))
    · rw [hf, str_bytes]
    · exact decide_eq_true (by omega)
  | succ d ih =>
    intro i t hd hi hf
    rcases Nat.lt_or_ge i L.length with hlt | hge
    · rw [List.drop_eq_getElem_cons hlt, fin1] at hf
      have hsz := fin1_len z (L.drop (i + 1)) (if (i == 0) = true then t ++ L[i] else t ++ [z] ++ L[i]) false
      rw [hf, hl] at hsz
      refine st (fun k => by rw [letterboxlaw01_CharsJoins.l0]) ?_
      refine yes (by omega) ?_
      by_cases h0 : i = 0
      · subst h0
        simp only [beq_self_eq_true, if_true, List.length_append] at hf hsz
        refine no (by simp) (st (fun k => by rw [letterboxlaw01_CharsJoins.j1]) ?_)
        refine joins_l1 s z L hs hlen 0 hlt _ (strs_at L 0 hlt) (hL _ (List.getElem_mem hlt)) (hn _ (List.getElem_mem hlt)) t (by omega) (ih 1 _ (by omega) hlt ?_) L[0].length 0 (by omega) (by omega)
        exact hf
      · have hb : (i == 0) = false := by simpa using h0
        simp only [hb, Bool.false_eq_true, if_false, List.length_append] at hf hsz
        simp only [List.length_cons, List.length_nil] at hsz
        refine yes (by omega) (bs (yes (by simp [strOfNums_size]; omega) (st (fun k => by rw [letterboxlaw01_CharsJoins.j1]) ?_)))
        simp only [str_append]
        refine joins_l1 s z L hs hlen i hlt _ (strs_at L i hlt) (hL _ (List.getElem_mem hlt)) (hn _ (List.getElem_mem hlt)) (t ++ [z]) (by simp; omega) (ih (i + 1) _ (by omega) hlt ?_) L[i].length 0 (by omega) (by omega)
        exact hf
    · refine st (fun k => by rw [letterboxlaw01_CharsJoins.l0]) ?_
      rw [List.drop_eq_nil_of_le (by omega), fin1] at hf
      refine no (by omega) (yes ?_ (fin ?_))
      · rw [hf, str_bytes]
      · exact decide_eq_true (by omega)
end
theorem CharsJoins : letterboxlaw01_CharsJoins.Pure := by
  intro a0 a1 h0 h1
  have hz := wf_u8 h1
  refine Ev.rounds (g := fun k => letterboxlaw01_CharsJoins.f k a0 a1) ?_
  show Ev (fun k => (letterboxlaw01_awake.f k).bind _) _
  refine bnd awake (yes rfl ?_)
  by_cases hs : (a0.size : Int) > 500
  · exact yes hs (fin rfl)
  · refine no hs ?_
    have hl := size_bytes a0
    have hn := splitL_len a1 (bytesOf a0) []
    refine bnd (split a0 a1 (by omega)) ?_
    exact joins_l0 a0 a1 hz _ (by omega) (splitL_byte a1 _ _ (byte_bytes a0) byte_nil) (splitL_none a1 _ _ (fun x hx => by cases hx)) (by omega) hn.2 _ 0 [] (Nat.le_refl _) (Nat.zero_le _) (by rw [List.drop_zero, fin1_split]; rfl)
end Go.Proofs.Ytannphcahjchjaa.Pure
