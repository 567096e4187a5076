/- The law CharsTexts holds of any texts. -/
import Derived.Test.YtannphcahjchjaaSplit
import Derived.Test.YtannphcahjchjaaNumber
import Derived.Test.YtannphcahjchjaaFold
import Derived.Test.YtannphcahjchjaaRTrim
import Derived.Test.YtannphcahjchjaaPx6
set_option linter.unusedVariables false
set_option linter.unusedSimpArgs false
set_option linter.unusedSectionVars false
namespace Go.Proofs.Ytannphcahjchjaa.Pure
open Go.RowKit Go.Proofs.Ytannphcahjchjaa.P Go.Proofs.YtannphcahjchjaaW.PrintWords Go.Proofs.YtannphcahjchjaaW.PrintLast Go.Proofs.Ytannphcahjchjaa.Aids Go.Proofs.Ytannphcahjchjaa.Chars
section
variable (s t : List Int) (z : Int) (hs : s.length ≤ 500) (ht : t.length ≤ 500) (hbs : byte s) (hbt : byte t) (n : Int) (b : Bool) (L : List ByteArray) (hL : L.length ≤ 1000)
include hs ht hbs hbt hL
theorem texts_l0 (d : Nat) : ∀ i : Nat, L.length - i ≤ d → i ≤ L.length → Ev (fun k => letterboxlaw01_CharsTexts.l0 k (strOfNums s) (strOfNums t) n b n b L L (i : Int)) true := by
  have stop : Ev (fun k => letterboxlaw01_CharsTexts.l0 k (strOfNums s) (strOfNums t) n b n b L L (L.length : Int)) true := by
    refine st (fun k => by rw [letterboxlaw01_CharsTexts.l0]) ?_
    rw [folded s hbs (by omega), same s t hbs hbt (by omega) (by omega)]
    refine no (by omega) (bs (bnd (rfolded s hbs (by omega)) (yes rfl (bs (bnd (rfolded s hbs (by omega)) (bnd (rfolded t hbt (by omega)) (yes ?_ (bnd (trimS s (by omega) hbs) (bnd (rtrimS s hbs (by omega)) (yes rfl (yes rfl (fin (by simp)))))))))))))
    rw [toList_beq, bytes_str _ (lows_byte hbs), bytes_str _ (lows_byte hbt)]; simp
  induction d with
  | zero =>
    intro i hd hi
    have e : i = L.length := by omega
    subst e; exact stop
  | succ d ih =>
    intro i hd hi
    rcases Nat.lt_or_ge i L.length with hlt | hge
    · have e1 : wrap64 ((i : Int) + 1) = ((i + 1 : Nat) : Int) := by rw [w64 (by omega) (by omega)]; omega
      have go := ih (i + 1) (by omega) hlt
      refine st (fun k => by rw [letterboxlaw01_CharsTexts.l0]) ?_
      rw [e1]
      exact yes (by omega) (yes (by omega) (yes (by omega) (yes rfl go)))
    · have e : i = L.length := by omega
      subst e; exact stop
end
theorem CharsTexts : letterboxlaw01_CharsTexts.Pure := by
  intro a0 a1 a2 h0 h1 h2
  have hz := wf_u8 h2
  have hl0 := size_bytes a0
  have hl1 := size_bytes a1
  refine Ev.rounds (g := fun k => letterboxlaw01_CharsTexts.f k a0 a1 a2) ?_
  show Ev (fun k => (letterboxlaw01_awake.f k).bind _) _
  refine bnd awake (yes rfl ?_)
  by_cases hs : (a0.size : Int) > 500
  · refine yes hs (st (fun k => by rw [letterboxlaw01_CharsTexts.j0]) ?_)
    exact yes rfl (fin rfl)
  · refine no hs (st (fun k => by rw [letterboxlaw01_CharsTexts.j0]) ?_)
    by_cases ha : (a1.size : Int) > 500
    · exact yes (decide_eq_true ha) (fin rfl)
    · refine no (by simpa using ha) ?_
      have hsp := splitL_len a2 (bytesOf a0) []
      have hsl : (strs (splitL a2 (bytesOf a0) [])).length = (splitL a2 (bytesOf a0) []).length := by simp [strs]
      have n1 := numbered (bytesOf a0) (byte_bytes a0) (by omega)
      have n2 := rnumbered (bytesOf a0) (byte_bytes a0) (by omega)
      have go := texts_l0 (bytesOf a0) (bytesOf a1) (by omega) (by omega) (byte_bytes a0) (byte_bytes a1) (number (bytesOf a0)).1 (number (bytesOf a0)).2 (strs (splitL a2 (bytesOf a0) [])) (by omega) _ 0 (Nat.le_refl _) (Nat.zero_le _)
      rw [str_bytes] at n1 n2 go
      rw [str_bytes] at go
      exact bnd n1 (bnd n2 (bnd (split a0 a2 (by omega)) (bnd (rsplit a0 a2 (by omega)) (yes rfl go))))
end Go.Proofs.Ytannphcahjchjaa.Pure
