-- Cut by a program of this session (wip/tools/prunew.py): what this claim does not need is left out.
import Derived.Test.YtmbiggcapakjjaaDoorEvs
import Derived.Test.YtmbiggcapakjjaaDoorPx3
set_option linter.unusedVariables false
set_option linter.unusedSimpArgs false
set_option linter.unusedSectionVars false
namespace Go.Proofs.YtmbiggcapakjjaaDoor.Chars
open Go.RowKit Go.Proofs.YtmbiggcapakjjaaDoor.P Go.Proofs.YtmbiggcapakjjaaDoorW.PrintWords Go.Proofs.YtmbiggcapakjjaaDoorW.PrintLast Go.Proofs.YtmbiggcapakjjaaDoor.Aids
def splitL (z : Int) : List Int → List Int → List (List Int)
  | [], cur => [cur]
  | c :: t, cur => if c = z then cur :: splitL z t [] else splitL z t (cur ++ [c])
theorem splitL_len (z : Int) (l cur : List Int) : (splitL z l cur).length ≤ l.length + 1 ∧ 1 ≤ (splitL z l cur).length := by
  induction l generalizing cur with
  | nil => simp [splitL]
  | cons c t ih =>
    rw [splitL]
    by_cases h : c = z
    · rw [if_pos h]; have := ih []; simp only [List.length_cons]; omega
    · rw [if_neg h]; have := ih (cur ++ [c]); simp only [List.length_cons]; omega
theorem splitL_byte (z : Int) (l cur : List Int) (hl : byte l) (hc : byte cur) : ∀ p ∈ splitL z l cur, byte p := by
  induction l generalizing cur with
  | nil => intro p hp; rw [splitL, List.mem_singleton] at hp; rw [hp]; exact hc
  | cons c t ih =>
    have ht : byte t := fun x hx => hl x (List.mem_cons_of_mem _ hx)
    have hx := hl c List.mem_cons_self
    rw [splitL]
    by_cases h : c = z
    · rw [if_pos h]; intro p hp
      rcases List.mem_cons.1 hp with rfl | hp
      · exact hc
      · exact ih [] ht byte_nil p hp
    · rw [if_neg h]; exact ih _ ht (byte_append hc (byte_one hx.1 hx.2))
def fin1 (z : Int) : List Int → List (List Int) → Bool → List Int
  | t, [], _ => t
  | t, p :: q, f => fin1 z (if f then t ++ p else t ++ [z] ++ p) q false
theorem fin1_split (z : Int) (l cur t : List Int) (f : Bool) : fin1 z t (splitL z l cur) f = (if f then t else t ++ [z]) ++ cur ++ l := by
  induction l generalizing cur t f with
  | nil => cases f <;> simp [splitL, fin1]
  | cons c r ih =>
    rw [splitL]
    by_cases h : c = z
    · subst h
      rw [if_pos rfl, fin1, ih]; cases f <;> simp
    · rw [if_neg h, ih]; cases f <;> simp
def strs (L : List (List Int)) : List ByteArray := L.map strOfNums
theorem rdOf_at {α : Type} (d : α) (l : List α) (i : Nat) (h : i < l.length) : rdOf d l (i : Int) = l[i] := by
  unfold rdOf
  rw [Int.toNat_natCast, List.getD_eq_getElem?_getD, List.getElem?_eq_getElem h]; rfl
theorem strs_at (L : List (List Int)) (i : Nat) (h : i < L.length) : rdOf ByteArray.empty (strs L) (i : Int) = strOfNums L[i] := by
  rw [rdOf_at _ _ _ (by simpa [strs] using h)]; simp [strs]
section
variable (s : ByteArray) (z : Int) (hs : s.size ≤ 1000000)
include hs
theorem split_l0 (d : Nat) : ∀ (acc : List ByteArray) (j i : Nat), s.size - i ≤ d → i ≤ s.size → j ≤ i → acc.length ≤ i →
    Ev (fun k => chars_Split.l0 k s z acc (j : Int) (s.size : Int) (i : Int)) (acc ++ strs (splitL z ((bytesOf s).drop i) (((bytesOf s).take i).drop j))) := by
  have hl := size_bytes s
  have stop : ∀ (acc : List ByteArray) (j : Nat), j ≤ s.size → acc.length ≤ s.size → Ev (fun k => chars_Split.l0 k s z acc (j : Int) (s.size : Int) (s.size : Int)) (acc ++ strs (splitL z ((bytesOf s).drop s.size) (((bytesOf s).take s.size).drop j))) := by
    intro acc j hj ha
    refine st (fun k => by rw [chars_Split.l0]) ?_
    refine no (by omega) (yes (by omega) (yes (by omega) (yes (by omega) (fin ?_))))
    rw [List.drop_eq_nil_of_le (by omega), List.take_of_length_le (by omega), splitL]
    simp only [strs, List.map_cons, List.map_nil]
    congr 2
    apply bytes_inj
    rw [bytes_extract, bytes_str _ (byte_drop (byte_bytes s) j), Int.toNat_natCast, List.take_of_length_le (by omega)]
  induction d with
  | zero =>
    intro acc j i hd hi hj ha
    have e : i = s.size := by omega
    subst e
    exact stop acc j hj ha
  | succ d ih =>
    intro acc j i hd hi hj ha
    rcases Nat.lt_or_ge i s.size with hlt | hge
    · have e1 : wrap64 ((i : Int) + 1) = ((i + 1 : Nat) : Int) := by rw [w64 (by omega) (by omega)]; omega
      refine st (fun k => by rw [chars_Split.l0]) ?_
      rw [drop_rd _ i (by omega)]
      simp only [bt_bytes, e1]
      refine yes (by omega) (yes (by omega) (yes (by omega) ?_))
      by_cases h : rd (bytesOf s) (i : Int) = z
      · refine yes h (yes (by omega) (yes (by omega) (yes (by omega) (yes (by omega) ?_))))
        have := ih (acc ++ [s.extract ((j : Int)).toNat ((i : Int)).toNat]) (i + 1) (i + 1) (by omega) hlt (Nat.le_refl _) (by simp; omega)
        refine toE this ?_
        have en : ((bytesOf s).take (i + 1)).drop (i + 1) = [] := List.drop_eq_nil_of_le (by simp; omega)
        rw [splitL, if_pos h, en]
        simp only [strs, List.map_cons, List.append_assoc, List.cons_append, List.nil_append]
        congr 2
        apply bytes_inj
        rw [bytes_extract, bytes_str _ (byte_drop (byte_take (byte_bytes s) i) j), Int.toNat_natCast, Int.toNat_natCast]
      · refine no h ?_
        refine toE (ih acc j (i + 1) (by omega) hlt (by omega) (by omega)) ?_
        have ht : ((bytesOf s).take (i + 1)).drop j = ((bytesOf s).take i).drop j ++ [rd (bytesOf s) (i : Int)] := by
          rw [rd_at _ i (by omega), List.take_succ_eq_append_getElem (by omega), List.drop_append_of_le_length (by simp; omega)]
        rw [splitL, if_neg h, ht]
    · have e : i = s.size := by omega
      subst e
      exact stop acc j hj ha
theorem split : Ev (fun k => chars_Split.f k s z) (strs (splitL z (bytesOf s) [])) := by
  have := split_l0 s z hs s.size [] 0 0 (by omega) (by omega) (Nat.le_refl _) (Nat.zero_le _)
  unfold chars_Split.f
  simpa using this
end
end Go.Proofs.YtmbiggcapakjjaaDoor.Chars
