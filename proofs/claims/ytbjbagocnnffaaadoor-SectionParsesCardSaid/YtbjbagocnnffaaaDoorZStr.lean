import Derived.Test.YtbjbagocnnffaaaDoorPx0
import Derived.Shelf.Lay
import Derived.Shelf.Strings.OnBuilder
import Derived.Shelf.Strings.Search2
namespace Go.Proofs.YtbjbagocnnffaaaDoor.P
open Go.RowKit Go.Shelf Go.Proofs.YtbjbagocnnffaaaDoorW.PrintWords Go.Proofs.YtbjbagocnnffaaaDoorW.PrintLast Go.Proofs.YtbjbagocnnffaaaDoorW.PrintMore
attribute [-simp] Int.tmod_tmod_of_dvd
set_option linter.unusedVariables false
set_option linter.unusedSimpArgs false
shelf_lay Lays.n156 Nm 156 at Tryd as Tryd.laysJoin
theorem sq_extra : Builder.Extra Tryd.prog Tryd.laysJoin_ren where
  sizeBuilder := by kernel_rfl
  liesBuilder := by kernel_rfl
  t5 := by kernel_rfl
  a5 := fun w => by first | rfl | (simp [isAgg, run_underlying Tryd.underlying5]; done) | kernel_rfl
  z5 := fun w => by first | rfl | kernel_rfl
  v5 := fun w => by first | rfl | kernel_rfl
  infoByte := by kernel_rfl
  cellsByte := by kernel_rfl
  sizeByte := by kernel_rfl
  neB5 := by decide
def sq_join (l : List ByteArray) (sep : ByteArray) : ByteArray := ⟨(Lib.join (l.map (·.data.toList)) sep.data.toList).toArray⟩
theorem sq_Join (A : Option Addr) (c : Nat) (l : List ByteArray) (sep : ByteArray) (w : World) (hr : Kd.C Kd.string w A l.length l) (hc : l.length ≤ c) (hl : l.length ≤ 140737488355328) (hs : (Lib.join (l.map (·.data.toList)) sep.data.toList).length ≤ 140737488355328) :
    Calls Tryd.prog 31 #[.slice A l.length c, .string sep] w fun e w' => e = .returned (.string (sq_join l sep)) ∧ Below w.heap.size w w' := by
  by_cases h0 : l = []
  · subst h0
    exact (Any.strings_Join_none Tryd.laysJoin sq_extra A c sep w).mono fun e w' ⟨he, hw⟩ => ⟨he, hw ▸ Below.refl _ _⟩
  · have hp : 0 < l.length := List.length_pos_iff.2 h0
    obtain ⟨ad, rfl, hx⟩ := Kd.at_string hr 0 (by omega) (by omega)
    have hsp : ad = ⟨ad.block, ad.off, none⟩ := by
      have : w.cell? ad = some (.string (rdOf ByteArray.empty l 0)) := by simpa [Addr.add] using hx
      cases ad with
      | mk b o s =>
        cases s with
        | none => rfl
        | some s =>
          simp only [World.cell?] at this
          split at this <;> simp at this
    have hb : ad.block < w.heap.size := by
      have : w.cell? ad = some (.string (rdOf ByteArray.empty l 0)) := by simpa [Addr.add] using hx
      exact World.block_lt_of_cell? w _ this
    have hcells : ∀ (j : Nat) x, l[j]? = some x → w.cell? ⟨ad.block, ad.off + j, none⟩ = some (.string x) := by
      intro j x hj
      have hjl := (List.getElem?_eq_some_iff.1 hj).1
      obtain ⟨ad2, e, hy⟩ := Kd.at_string hr (j : Int) (by omega) (by omega)
      cases e
      have e2 : rdOf ByteArray.empty l (j : Int) = x := by
        show l.getD (j : Int).toNat ByteArray.empty = x
        simp [List.getD_eq_getElem?_getD, hj]
      rw [e2, Int.toNat_natCast] at hy
      rw [hsp] at hy
      unfold Addr.add at hy
      split at hy
      · rename_i h; subst h; exact hy
      · exact hy
    have := Any.strings_Join Tryd.laysJoin sq_extra ad.block ad.off c l sep w hcells hb hl hc hs
    rw [← hsp] at this
    exact this
end Go.Proofs.YtbjbagocnnffaaaDoor.P
