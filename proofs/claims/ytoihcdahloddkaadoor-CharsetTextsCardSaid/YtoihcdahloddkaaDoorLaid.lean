/- What the rows' listed tables (unicode/utf8.first, acceptRanges) say of the call's own world; and the witness's world, in which both are laid. -/
import Derived.Test.YtoihcdahloddkaaDoorRows
import Derived.Test.YtoihcdahloddkaaDoorZTop
import Derived.ProofKit
import Derived.LaidMore
import Derived.OpenShut
import Derived.Stop.Joined
import Derived.PinnedBridge
import Derived.Lay
import Derived.LaidOnce
import Derived.Lib.LaidU8T
namespace Go.Proofs.YtoihcdahloddkaaDoor.Laid
open Go.ChangeShapes Go.ChangeAt Go.RowKit Go.Lib
def laidL : List (String × DataW Unit) := [("unicode/utf8.acceptRanges", Rows.laid_unicode_utf8_acceptRanges), ("unicode/utf8.first", Rows.laid_unicode_utf8_first)]
theorem accept_eq : (Rows.laid_unicode_utf8_acceptRanges : DataW Unit) = acceptData := by kernel_rfl
theorem first_eq : Rows.laid_unicode_utf8_first = firstData := Pinned.utf8First_eq
theorem of_laid {W : World} (h : laidMetH Tryd.prog laidL W) : P.cs_Tabs W := by
  rw [MakeChecks.laidMetH_plain _ _ _ (by kernel_rfl)] at h
  have h1 := Lib.laidMet.reads h (.head _)
  have h2 := Lib.laidMet.reads h (.tail _ (.head _))
  simp only [accept_eq] at h1
  simp only [first_eq] at h2
  exact Go.Proofs.utf8Tabs_of_readsT (U8Types.of196 P.Tryd.laysValid) ⟨by kernel_rfl, by kernel_rfl, by kernel_rfl, by kernel_rfl, by kernel_rfl, by kernel_rfl, by kernel_rfl⟩ h2 h1
noncomputable def wit (os : Os) : World := World.laidAll Tryd.prog os laidL
theorem wit_os (os : Os) : (wit os).os = os := World.laidAll_os _ _ _
theorem wit_shaped (os : Os) : (wit os).Shaped Tryd.prog := World.shaped_of_ZipB (by kernel_rfl) (by kernel_rfl)
theorem door_met (os : Os) (args : Array Value) : laidMetH Tryd.prog laidL ((wit os).forCall (fun _ _ => 0) ⟨#[], args, []⟩).memory := by
  rw [MakeChecks.laidMetH_plain _ _ _ (by kernel_rfl)]
  exact laidMet_laidAll _ (by kernel_rfl) (by kernel_rfl)
end Go.Proofs.YtoihcdahloddkaaDoor.Laid
