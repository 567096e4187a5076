-- Cut by a program of this session (wip/tools/prunew.py): what this claim does not need is left out.
import Derived.Test.YtmbiggcapakjjaaDoorSplA
import Derived.Test.YtmbiggcapakjjaaDoorPx16
set_option linter.unusedVariables false
set_option linter.unusedSimpArgs false
set_option linter.unusedSectionVars false
namespace Go.Proofs.YtmbiggcapakjjaaDoor.Chars
open Go.RowKit Go.Proofs.YtmbiggcapakjjaaDoor.P Go.Proofs.YtmbiggcapakjjaaDoorW.PrintWords Go.Proofs.YtmbiggcapakjjaaDoorW.PrintLast Go.Proofs.YtmbiggcapakjjaaDoor.Aids
section
variable (s : ByteArray) (z : Int) (hs : s.size ≤ 1000000)
include hs
theorem rsplit_l0 (d : Nat) : ∀ (acc : List ByteArray) (cur : List Int) (i : Nat), s.size - i ≤ d → i ≤ s.size → cur.length ≤ i → byte cur → acc.length ≤ i →
    Ev (fun k => letterboxref01_Split.l0 k s z acc (strOfNums cur) (i : Int)) (acc ++ strs (splitL z ((bytesOf s).drop i) cur)) := by
  have hl := size_bytes s
  have stop : ∀ (acc : List ByteArray) (cur : List Int), acc.length ≤ s.size → Ev (fun k => letterboxref01_Split.l0 k s z acc (strOfNums cur) (s.size : Int)) (acc ++ strs (splitL z ((bytesOf s).drop s.size) cur)) := by
    intro acc cur ha
    refine st (fun k => by rw [letterboxref01_Split.l0]) ?_
    refine no (by omega) (yes (by omega) (fin ?_))
    rw [List.drop_eq_nil_of_le (by omega), splitL]; rfl
  induction d with
  | zero =>
    intro acc cur i hd hi hj hb ha
    have e : i = s.size := by omega
    subst e
    exact stop acc cur ha
  | succ d ih =>
    intro acc cur i hd hi hj hb ha
    rcases Nat.lt_or_ge i s.size with hlt | hge
    · have e1 : wrap64 ((i : Int) + 1) = ((i + 1 : Nat) : Int) := by rw [w64 (by omega) (by omega)]; omega
      have ex : s.extract (i : Int).toNat (((i + 1 : Nat) : Int)).toNat = strOfNums [rd (bytesOf s) (i : Int)] := by
        apply bytes_inj
        have hx := byte_bytes s _ (rd_mem (bytesOf s) i (by omega))
        rw [bytes_extract, bytes_str _ (byte_one hx.1 hx.2), Int.toNat_natCast, Int.toNat_natCast, rd_at _ i (by omega), List.take_succ_eq_append_getElem (by omega), List.drop_append_of_le_length (by simp; omega), List.drop_eq_nil_of_le (by simp; omega)]; rfl
      refine st (fun k => by rw [letterboxref01_Split.l0]) ?_
      rw [drop_rd _ i (by omega)]
      simp only [bt_bytes, e1, ex, str_append, strOfNums_size]
      refine yes (by omega) (yes (by omega) ?_)
      by_cases h : rd (bytesOf s) (i : Int) = z
      · refine yes h (yes (by omega) ?_)
        refine toE (ih (acc ++ [strOfNums cur]) [] (i + 1) (by omega) hlt (by simp) byte_nil (by simp; omega)) ?_
        rw [splitL, if_pos h]
        simp only [strs, List.map_cons, List.append_assoc, List.cons_append, List.nil_append]
      · refine no h (yes (by omega) (yes (by omega) (yes (by simp; omega) ?_)))
        have hx := byte_bytes s _ (rd_mem (bytesOf s) i (by omega))
        refine toE (ih acc (cur ++ [rd (bytesOf s) (i : Int)]) (i + 1) (by omega) hlt (by simp; omega) (byte_append hb (byte_one hx.1 hx.2)) (by omega)) ?_
        rw [splitL, if_neg h]
    · have e : i = s.size := by omega
      subst e
      exact stop acc cur ha
theorem rsplit : Ev (fun k => letterboxref01_Split.f k s z) (strs (splitL z (bytesOf s) [])) := by
  have := rsplit_l0 s z hs s.size [] [] 0 (by omega) (by omega) (by simp) byte_nil (Nat.zero_le _)
  unfold letterboxref01_Split.f
  simpa [str_nil] using this
end
end Go.Proofs.YtmbiggcapakjjaaDoor.Chars
