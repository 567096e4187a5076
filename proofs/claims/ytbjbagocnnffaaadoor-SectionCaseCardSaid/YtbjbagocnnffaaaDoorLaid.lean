/- What the row's listed variable says of the call's own world: the words' cells. And the world that the door leaves meets it. -/
import Derived.Test.YtbjbagocnnffaaaDoorRows
import Derived.Test.YtbjbagocnnffaaaDoorPx5
import Derived.ProofKit
import Derived.LaidMore
import Derived.OpenShut
import Derived.ChangeArms
import Derived.Stop.Joined
namespace Go.Proofs.YtbjbagocnnffaaaDoor.Laid
open Go.ChangeShapes Go.ChangeAt Go.RowKit Go.Proofs.YtbjbagocnnffaaaDoorW.PrintWords
def laidL : List (String × DataW Unit) := [("letterbox/section.words", Rows.laid_letterbox_section_words)]
theorem gL : Tryd.prog.globalNamed "letterbox/section.words" = some 0 := by kernel_rfl
theorem tL : (Tryd.prog.globals[0]?).map (·.type) = some 66 := by kernel_rfl
theorem door_met (os : Os) (args : Array Value) : laidMetH Tryd.prog laidL ((World.doorLaid Tryd.prog 14 os).forCall (fun _ _ => 0) ⟨#[], args, []⟩).memory :=
  laidMetH_of_parts3 (fuel := 8) (laidMet_of_run' 8 (by kernel_rfl) (by kernel_rfl)) (by kernel_rfl) (by kernel_rfl)
theorem lits : (Rows.laid_letterbox_section_words : DataW Unit) = .agg (P.sec_w6.map fun s => .lit (.string s.data.toList)) := rfl
theorem of_laid {W : World} (h : laidMetH Tryd.prog laidL W) : P.sec_Words W := by
  rw [MakeChecks.laidMetH_plain _ _ _ (by kernel_rfl)] at h
  obtain ⟨ps, ⟨g0, t0, cs0, f0, p0, q0, hg0, ht0, hv0, hd0, _, _⟩, _, _⟩ := h
  obtain rfl := Option.some.inj (gL.symm.trans hg0)
  obtain rfl := Option.some.inj (tL.symm.trans ht0)
  obtain ⟨xs, m1, rfl, hx1, hlen, hn3, hel⟩ := DataW.trod_array Tryd.underlying66 hd0
  have c9 : Tryd.prog.cellsOf 9 = 1 := by kernel_rfl
  simp only [Prod.mk.injEq] at hx1
  have hx := hx1.1
  rw [lits] at hx
  simp only [DataW.agg.injEq] at hx
  intro j hj
  have h0 := hel j hj
  rw [c9, Nat.mul_one] at h0
  have hjx : j < xs.length := by omega
  rw [List.getElem?_eq_getElem hjx] at h0
  obtain ⟨s, e1, e2, _⟩ := DataW.trod_string Tryd.underlying9 h0
  have hs : s = P.sec_word (j : Int) := by
    have h1 : (xs.map (·.1))[j]? = some xs[j].1 := by rw [List.getElem?_map, List.getElem?_eq_getElem hjx]; rfl
    have hjl : j < P.sec_w6.length := hj
    rw [← hx, List.getElem?_map, List.getElem?_eq_getElem hjl, e2] at h1
    have h2 : P.sec_w6[j].data.toList = s.data.toList := by simpa using h1
    have h3 : P.sec_word (j : Int) = P.sec_w6[j] := by
      unfold P.sec_word
      simp [List.getD_eq_getElem?_getD, List.getElem?_eq_getElem hjl]
    rw [h3]
    exact (ByteArray.ext (Array.ext' h2)).symm
  subst hs
  rw [World.var?_cell hg0 hv0 j]
  have h3 : (cs0.toList.drop j)[0]? = some (Value.string (P.sec_word (j : Int))) := by
    have : ((cs0.toList.drop j).take 1)[0]? = some (Value.string (P.sec_word (j : Int))) := by rw [e1]; rfl
    rwa [List.getElem?_take_of_lt (by decide)] at this
  rw [List.getElem?_drop, Nat.add_zero] at h3
  simpa using h3
end Go.Proofs.YtbjbagocnnffaaaDoor.Laid
