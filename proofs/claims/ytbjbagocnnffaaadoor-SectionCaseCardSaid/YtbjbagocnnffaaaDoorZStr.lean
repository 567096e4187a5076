import Derived.Test.YtbjbagocnnffaaaDoorPx0
import Derived.Shelf.Strings.OnBuilder
import Derived.Shelf.Strings.Search2
namespace Go.Proofs.YtbjbagocnnffaaaDoor.P
open Go.RowKit Go.Shelf Go.Proofs.YtbjbagocnnffaaaDoorW.PrintWords Go.Proofs.YtbjbagocnnffaaaDoorW.PrintLast Go.Proofs.YtbjbagocnnffaaaDoorW.PrintMore
attribute [-simp] Int.tmod_tmod_of_dvd
set_option linter.unusedVariables false
set_option linter.unusedSimpArgs false
def Tryd.laysJoin_ren : Go.Shelf.Ren := ⟨fun | 156 => 31 | 165 => 47 | 166 => 48 | 169 => 49 | 240 => 56 | 241 => 57 | 276 => 61 | 277 => 62 | n => n, fun | 31 => 24 | 9 => 9 | 3 => 3 | 4 => 4 | 0 => 0 | 20 => 20 | 72 => 79 | 76 => 83 | 70 => 77 | 37 => 42 | 75 => 82 | 127 => 86 | 164 => 88 | 5 => 5 | 80 => 73 | n => n, fun | n => n⟩
theorem Tryd.laysJoin : Go.Proofs.Lays.n156 Tryd.prog Tryd.laysJoin_ren := {
  mixed := by kernel_rfl
  f156 := Tryd.func31.trans (congrArg some (by kernel_rfl))
  f165 := Tryd.func47.trans (congrArg some (by kernel_rfl))
  f166 := Tryd.func48.trans (congrArg some (by kernel_rfl))
  f169 := Tryd.func49.trans (congrArg some (by kernel_rfl))
  f240 := Tryd.func56.trans (congrArg some (by kernel_rfl))
  f241 := Tryd.func57.trans (congrArg some (by kernel_rfl))
  f276 := Tryd.func61.trans (congrArg some (by kernel_rfl))
  f277 := Tryd.func62.trans (congrArg some (by kernel_rfl))
  t0 := Tryd.underlying0
  a0 := Tryd.isAgg0
  z0 := Tryd.sizeOf0
  v0 := Tryd.zeroValue0
  t3 := Tryd.underlying3
  a3 := Tryd.isAgg3
  z3 := Tryd.sizeOf3
  v3 := Tryd.zeroValue3
  t4 := Tryd.underlying4
  a4 := Tryd.isAgg4
  z4 := Tryd.sizeOf4
  v4 := Tryd.zeroValue4
  t9 := Tryd.underlying9
  a9 := Tryd.isAgg9
  z9 := Tryd.sizeOf9
  v9 := Tryd.zeroValue9
  t20 := Tryd.underlying20
  a20 := Tryd.isAgg20
  z20 := Tryd.sizeOf20
  v20 := Tryd.zeroValue20
  t31 := Tryd.underlying24
  a31 := Tryd.isAgg24
  z31 := Tryd.sizeOf24
  v31 := Tryd.zeroValue24
  t37 := Tryd.underlying42
  a37 := Tryd.isAgg42
  z37 := Tryd.sizeOf42
  v37 := Tryd.zeroValue42
  t70 := Tryd.underlying77
  a70 := Tryd.isAgg77
  z70 := Tryd.sizeOf77
  v70 := Tryd.zeroValue77
  t72 := Tryd.underlying79
  a72 := Tryd.isAgg79
  z72 := Tryd.sizeOf79
  v72 := Tryd.zeroValue79
  t75 := Tryd.underlying82
  a75 := Tryd.isAgg82
  z75 := Tryd.sizeOf82
  v75 := Tryd.zeroValue82
  t76 := Tryd.underlying83
  a76 := Tryd.isAgg83
  z76 := Tryd.sizeOf83
  v76 := Tryd.zeroValue83
  t127 := Tryd.underlying86
  a127 := Tryd.isAgg86
  z127 := Tryd.sizeOf86
  v127 := Tryd.zeroValue86
  t164 := Tryd.underlying88
  a164 := Tryd.isAgg88
  z164 := Tryd.sizeOf88
  v164 := Tryd.zeroValue88 }
theorem sq_extra : Builder.Extra Tryd.prog Tryd.laysJoin_ren where
  sizeBuilder := by kernel_rfl
  liesBuilder := by kernel_rfl
  t5 := by kernel_rfl
  a5 := fun w => by first | rfl | (simp [isAgg, run_underlying Tryd.underlying5]; done) | kernel_rfl
  z5 := fun w => by first | rfl | kernel_rfl
  v5 := fun w => by first | rfl | kernel_rfl
  infoByte := by kernel_rfl
  cellsByte := by kernel_rfl
  sizeByte := by kernel_rfl
  neB5 := by decide
def sq_join (l : List ByteArray) (sep : ByteArray) : ByteArray := ⟨(Lib.join (l.map (·.data.toList)) sep.data.toList).toArray⟩
theorem sq_Join (A : Option Addr) (c : Nat) (l : List ByteArray) (sep : ByteArray) (w : World) (hr : Kd.C Kd.string w A l.length l) (hc : l.length ≤ c) (hl : l.length ≤ 140737488355328) (hs : (Lib.join (l.map (·.data.toList)) sep.data.toList).length ≤ 140737488355328) :
    Calls Tryd.prog 31 #[.slice A l.length c, .string sep] w fun e w' => e = .returned (.string (sq_join l sep)) ∧ Below w.heap.size w w' := by
  by_cases h0 : l = []
  · subst h0
    exact (Any.strings_Join_none Tryd.laysJoin sq_extra A c sep w).mono fun e w' ⟨he, hw⟩ => ⟨he, hw ▸ Below.refl _ _⟩
  · have hp : 0 < l.length := List.length_pos_iff.2 h0
    obtain ⟨ad, rfl, hx⟩ := Kd.at_string hr 0 (by omega) (by omega)
    have hsp : ad = ⟨ad.block, ad.off, none⟩ := by
      have : w.cell? ad = some (.string (rdOf ByteArray.empty l 0)) := by simpa [Addr.add] using hx
      cases ad with
      | mk b o s =>
        cases s with
        | none => rfl
        | some s =>
          simp only [World.cell?] at this
          split at this <;> simp at this
    have hb : ad.block < w.heap.size := by
      have : w.cell? ad = some (.string (rdOf ByteArray.empty l 0)) := by simpa [Addr.add] using hx
      exact World.block_lt_of_cell? w _ this
    have hcells : ∀ (j : Nat) x, l[j]? = some x → w.cell? ⟨ad.block, ad.off + j, none⟩ = some (.string x) := by
      intro j x hj
      have hjl := (List.getElem?_eq_some_iff.1 hj).1
      obtain ⟨ad2, e, hy⟩ := Kd.at_string hr (j : Int) (by omega) (by omega)
      cases e
      have e2 : rdOf ByteArray.empty l (j : Int) = x := by
        show l.getD (j : Int).toNat ByteArray.empty = x
        simp [List.getD_eq_getElem?_getD, hj]
      rw [e2, Int.toNat_natCast] at hy
      rw [hsp] at hy
      unfold Addr.add at hy
      split at hy
      · rename_i h; subst h; exact hy
      · exact hy
    have := Any.strings_Join Tryd.laysJoin sq_extra ad.block ad.off c l sep w hcells hb hl hc hs
    rw [← hsp] at this
    exact this
end Go.Proofs.YtbjbagocnnffaaaDoor.P
