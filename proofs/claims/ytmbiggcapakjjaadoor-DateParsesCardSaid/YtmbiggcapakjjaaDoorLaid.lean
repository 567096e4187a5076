/- What the rows' listed and named variables say of the call's own world: the months' cells, and a number in MaxLen. And the witness's world. -/
import Derived.Test.YtmbiggcapakjjaaDoorRows
import Derived.Test.YtmbiggcapakjjaaDoorPx0
import Derived.Test.YtmbiggcapakjjaaDoorShaped
import Derived.ProofKit
import Derived.LaidMore
import Derived.OpenShut
import Derived.ChangeArms
import Derived.Stop.Joined
import Derived.PinnedBridge
import Derived.Lay
import Derived.LaidOnce
import Derived.Lib.LaidU8T
import Derived.Shelf.Vars
namespace Go.Proofs.YtmbiggcapakjjaaDoor.Laid
open Go.ChangeShapes Go.ChangeAt Go.RowKit Go.Lib
def laidL : List (String × DataW Unit) := [("unicode/utf8.acceptRanges", Rows.laid_unicode_utf8_acceptRanges), ("letterbox/date.months", Rows.laid_letterbox_date_months), ("unicode/utf8.first", Rows.laid_unicode_utf8_first)]
theorem gL : Tryd.prog.globalNamed "letterbox/date.months" = some 0 := by kernel_rfl
theorem tL : (Tryd.prog.globals[0]?).map (·.type) = some 59 := by kernel_rfl
theorem lits : (Rows.laid_letterbox_date_months : DataW Unit) = .agg (P.mo_w.map fun s => .lit (.string s.data.toList)) := rfl
theorem months_of {W : World} (h : laidMetH Tryd.prog laidL W) : ∀ j : Nat, j < 12 → W.cell? ⟨0, j, none⟩ = some (.string (P.mo_word (j : Int))) := by
  rw [MakeChecks.laidMetH_plain _ _ _ (by kernel_rfl)] at h
  obtain ⟨g0, t0, cs0, f0, p0, hg0, ht0, hv0, hd0⟩ := Lib.laidMet.reads h (.tail _ (.head _))
  obtain rfl := Option.some.inj (gL.symm.trans hg0)
  obtain rfl := Option.some.inj (tL.symm.trans ht0)
  obtain ⟨xs, m1, rfl, hx1, hlen, hn3, hel⟩ := DataW.trod_array Tryd.underlying59 hd0
  have c9 : Tryd.prog.cellsOf 9 = 1 := by kernel_rfl
  simp only [Prod.mk.injEq] at hx1
  have hx := hx1.1
  rw [lits] at hx
  simp only [DataW.agg.injEq] at hx
  intro j hj
  have h0 := hel j hj
  rw [c9, Nat.mul_one] at h0
  have hjx : j < xs.length := by omega
  rw [List.getElem?_eq_getElem hjx] at h0
  obtain ⟨s, e1, e2, _⟩ := DataW.trod_string Tryd.underlying9 h0
  have hs : s = P.mo_word (j : Int) := by
    have h1 : (xs.map (·.1))[j]? = some xs[j].1 := by rw [List.getElem?_map, List.getElem?_eq_getElem hjx]; rfl
    have hjl : j < P.mo_w.length := hj
    rw [← hx, List.getElem?_map, List.getElem?_eq_getElem hjl, e2] at h1
    have h2 : P.mo_w[j].data.toList = s.data.toList := by simpa using h1
    have h3 : P.mo_word (j : Int) = P.mo_w[j] := by
      unfold P.mo_word
      simp [List.getD_eq_getElem?_getD, List.getElem?_eq_getElem hjl]
    rw [h3]
    exact (ByteArray.ext (Array.ext' h2)).symm
  subst hs
  rw [World.var?_cell hg0 hv0 j]
  have h3 : (cs0.toList.drop j)[0]? = some (Value.string (P.mo_word (j : Int))) := by
    have : ((cs0.toList.drop j).take 1)[0]? = some (Value.string (P.mo_word (j : Int))) := by rw [e1]; rfl
    rwa [List.getElem?_take_of_lt (by decide)] at this
  rw [List.getElem?_drop, Nat.add_zero] at h3
  simpa using h3
theorem of_laid {W : World} (h : laidMetH Tryd.prog laidL W) (hs : W.ShapedOpen Tryd.prog) : P.mo_Words W :=
  ⟨months_of h, cell_of_shapedOpen_int (g := 1) (t := 3) (zero := #[.int .i64 0]) hs (of_decide_eq_true (by kernel_rfl)) (by kernel_rfl) rfl (by kernel_rfl) (by kernel_rfl) Tryd.underlying3⟩
noncomputable def wit (os : Os) : World := World.laidAll Tryd.prog os laidL
theorem wit_os (os : Os) : (wit os).os = os := World.laidAll_os _ _ _
theorem wit_shaped (os : Os) : (wit os).Shaped Tryd.prog := World.shaped_of_ZipB (by kernel_rfl) (by kernel_rfl)
theorem door_met (os : Os) (args : Array Value) : laidMetH Tryd.prog laidL ((wit os).forCall (fun _ _ => 0) ⟨#[], args, []⟩).memory := by
  rw [MakeChecks.laidMetH_plain _ _ _ (by kernel_rfl)]
  exact laidMet_laidAll _ (by kernel_rfl) (by kernel_rfl)
end Go.Proofs.YtmbiggcapakjjaaDoor.Laid
