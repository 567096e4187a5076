/- The document's example; what the two functions tell, under short names. -/
import Derived.Test.YtoihcdahloddkaaDoorPx1
import Derived.Test.YtoihcdahloddkaaDoorCs
set_option linter.unusedVariables false
set_option linter.unusedSimpArgs false
namespace Go.Proofs.YtoihcdahloddkaaDoor.Cs
open Go.RowKit Go.Lib Go.Proofs.YtoihcdahloddkaaDoor.P Go.Proofs.YtoihcdahloddkaaDoor.Utf Go.Proofs.YtoihcdahloddkaaDoorW.PrintWords Go.Proofs.YtoihcdahloddkaaDoorW.PrintLast Go.Proofs.YtoihcdahloddkaaDoor.Aids
theorem awake : letterboxlaw08_awake.f = some true := by decide +kernel
theorem byteB {l : List Int} (h : byte l) : cs_byteB l = true := by
  unfold cs_byteB
  rw [List.all_eq_true]
  intro x hx
  have := h x hx
  simp only [Bool.and_eq_true, decide_eq_true_eq]
  omega
theorem text_f (n : ByteArray) (b : List Int) (hn : n.size ≤ 140737488351232) (hl : b.length < 1000000) (hb : byte b) : charset_Text.f n b = some (cs_textv (cs_kind (cs_fold n)) b) := if_pos ⟨by omega, hl, byteB hb⟩
theorem bytes_f (n s : ByteArray) (hn : n.size ≤ 140737488351232) (hl : s.size < 1000000) : charset_Bytes.f n s = some (cs_bytv (cs_kind (cs_fold n)) s) := if_pos ⟨by omega, hl⟩
end Go.Proofs.YtoihcdahloddkaaDoor.Cs
