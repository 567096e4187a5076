/- What the row's listed variable says of the call's own world: the letters' cells. And the world that the door leaves meets it. -/
import Derived.Test.YtnmojlolgioijaaDoorRows
import Derived.Test.YtnmojlolgioijaaDoorPx1
import Derived.ProofKit
import Derived.LaidMore
import Derived.OpenShut
import Derived.Stop.Joined
namespace Go.Proofs.YtnmojlolgioijaaDoor.Laid
open Go.ChangeShapes Go.ChangeAt Go.RowKit Go.Proofs.YtnmojlolgioijaaDoorW.PrintWords
def laidL : List (String × DataW Unit) := [("letterbox/b64.letters", Rows.laid_letterbox_b64_letters)]
theorem gL : Tryd.prog.globalNamed "letterbox/b64.letters" = some 0 := by kernel_rfl
theorem tL : (Tryd.prog.globals[0]?).map (·.type) = some 40 := by kernel_rfl
theorem door_met (os : Os) (args : Array Value) : laidMetH Tryd.prog laidL ((World.doorLaid Tryd.prog 14 os).forCall (fun _ _ => 0) ⟨#[], args, []⟩).memory :=
  laidMetH_of_parts3 (fuel := 8) (laidMet_of_run' 8 (by kernel_rfl) (by kernel_rfl)) (by kernel_rfl) (by kernel_rfl)
theorem lits : (Rows.laid_letterbox_b64_letters : DataW Unit) = .agg (P.b64_lets.map fun k => .lit (.int .u8 k)) := rfl
theorem of_laid {W : World} (h : laidMetH Tryd.prog laidL W) : P.b64_Letters W := by
  rw [MakeChecks.laidMetH_plain _ _ _ (by kernel_rfl)] at h
  obtain ⟨ps, ⟨g0, t0, cs0, f0, p0, q0, hg0, ht0, hv0, hd0, _, _⟩, _, _⟩ := h
  obtain rfl := Option.some.inj (gL.symm.trans hg0)
  obtain rfl := Option.some.inj (tL.symm.trans ht0)
  obtain ⟨xs, m1, rfl, hx1, hlen, hn3, hel⟩ := DataW.trod_array Tryd.underlying40 hd0
  have c5 : Tryd.prog.cellsOf 5 = 1 := by kernel_rfl
  simp only [Prod.mk.injEq] at hx1
  have hx := hx1.1
  rw [lits] at hx
  simp only [DataW.agg.injEq] at hx
  intro j hj
  have h0 := hel j hj
  rw [c5, Nat.mul_one] at h0
  have hjx : j < xs.length := by omega
  rw [List.getElem?_eq_getElem hjx] at h0
  obtain ⟨k, e1, e2, _⟩ := DataW.trod_int Tryd.underlying5 h0
  have hk : k = rd P.b64_lets (j : Int) := by
    have h1 : (xs.map (·.1))[j]? = some xs[j].1 := by rw [List.getElem?_map, List.getElem?_eq_getElem hjx]; rfl
    rw [← hx, List.getElem?_map] at h1
    have hjl : j < P.b64_lets.length := hj
    rw [List.getElem?_eq_getElem hjl, e2] at h1
    have h2 : P.b64_lets[j] = k := by simpa using h1
    rw [← h2]
    unfold rd
    simp [List.getD_eq_getElem?_getD, List.getElem?_eq_getElem hjl]
  subst hk
  have hc := World.var?_cell hg0 hv0 j
  rw [hc]
  have h3 : (cs0.toList.drop j)[0]? = some (Value.int .u8 (rd P.b64_lets (j : Int))) := by
    have : ((cs0.toList.drop j).take 1)[0]? = some (Value.int .u8 (rd P.b64_lets (j : Int))) := by rw [e1]; rfl
    rwa [List.getElem?_take_of_lt (by decide)] at this
  rw [List.getElem?_drop, Nat.add_zero] at h3
  simpa using h3
end Go.Proofs.YtnmojlolgioijaaDoor.Laid
