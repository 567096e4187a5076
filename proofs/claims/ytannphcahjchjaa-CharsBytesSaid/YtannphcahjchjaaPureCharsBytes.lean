/- The law CharsBytes holds of any byte. -/
import Derived.Test.YtannphcahjchjaaChars
import Derived.Test.YtannphcahjchjaaPx4
set_option linter.unusedVariables false
set_option linter.unusedSimpArgs false
set_option linter.unusedSectionVars false
namespace Go.Proofs.Ytannphcahjchjaa.Pure
open Go.RowKit Go.Proofs.Ytannphcahjchjaa.P Go.Proofs.YtannphcahjchjaaW.PrintWords Go.Proofs.YtannphcahjchjaaW.PrintLast Go.Proofs.Ytannphcahjchjaa.Aids Go.Proofs.Ytannphcahjchjaa.Chars
theorem CharsBytes : letterboxlaw01_CharsBytes.Pure := by
  intro a0 h0
  have hb := wf_u8 h0
  have all : ∀ x : Fin 256, letterboxlaw01_CharsBytes.f 60 (x.val : Int) = some true := by decide +kernel
  refine ⟨60, ?_⟩
  have := all ⟨a0.toNat, by omega⟩
  rw [show ((⟨a0.toNat, by omega⟩ : Fin 256).val : Int) = a0 from Int.toNat_of_nonneg hb.1] at this
  exact this
end Go.Proofs.Ytannphcahjchjaa.Pure
