import Derived.Test.YtcjepgofcojeoaaPx0
import Derived.Shelf.Strings.OnBuilder
import Derived.Shelf.Small.Strs
import Derived.Shelf.Strings.Search2
namespace Go.Proofs.Ytcjepgofcojeoaa.P
open Go.RowKit Go.Shelf Go.Proofs.YtcjepgofcojeoaaW.PrintWords Go.Proofs.YtcjepgofcojeoaaW.PrintLast Go.Proofs.YtcjepgofcojeoaaW.PrintMore
attribute [-simp] Int.tmod_tmod_of_dvd
set_option linter.unusedVariables false
set_option linter.unusedSimpArgs false
def Try.laysJoin_ren : Go.Shelf.Ren := ⟨fun | 156 => 30 | 165 => 35 | 166 => 13 | 169 => 15 | 240 => 23 | 241 => 36 | 276 => 32 | 277 => 37 | n => n, fun | 31 => 30 | 9 => 9 | 3 => 3 | 4 => 4 | 0 => 0 | 20 => 20 | 72 => 47 | 76 => 50 | 70 => 45 | 37 => 29 | 75 => 49 | 127 => 62 | 164 => 70 | 5 => 5 | 80 => 52 | n => n, fun | n => n⟩
theorem Try.laysJoin : Go.Proofs.Lays.n156 Try.prog Try.laysJoin_ren := {
  mixed := by kernel_rfl
  f156 := Try.func30.trans (congrArg some (by kernel_rfl))
  f165 := Try.func35.trans (congrArg some (by kernel_rfl))
  f166 := Try.func13.trans (congrArg some (by kernel_rfl))
  f169 := Try.func15.trans (congrArg some (by kernel_rfl))
  f240 := Try.func23.trans (congrArg some (by kernel_rfl))
  f241 := Try.func36.trans (congrArg some (by kernel_rfl))
  f276 := Try.func32.trans (congrArg some (by kernel_rfl))
  f277 := Try.func37.trans (congrArg some (by kernel_rfl))
  t0 := Try.underlying0
  a0 := Try.isAgg0
  z0 := Try.sizeOf0
  v0 := Try.zeroValue0
  t3 := Try.underlying3
  a3 := Try.isAgg3
  z3 := Try.sizeOf3
  v3 := Try.zeroValue3
  t4 := Try.underlying4
  a4 := Try.isAgg4
  z4 := Try.sizeOf4
  v4 := Try.zeroValue4
  t9 := Try.underlying9
  a9 := Try.isAgg9
  z9 := Try.sizeOf9
  v9 := Try.zeroValue9
  t20 := Try.underlying20
  a20 := Try.isAgg20
  z20 := Try.sizeOf20
  v20 := Try.zeroValue20
  t31 := Try.underlying30
  a31 := Try.isAgg30
  z31 := Try.sizeOf30
  v31 := Try.zeroValue30
  t37 := Try.underlying29
  a37 := Try.isAgg29
  z37 := Try.sizeOf29
  v37 := Try.zeroValue29
  t70 := Try.underlying45
  a70 := Try.isAgg45
  z70 := Try.sizeOf45
  v70 := Try.zeroValue45
  t72 := Try.underlying47
  a72 := Try.isAgg47
  z72 := Try.sizeOf47
  v72 := Try.zeroValue47
  t75 := Try.underlying49
  a75 := Try.isAgg49
  z75 := Try.sizeOf49
  v75 := Try.zeroValue49
  t76 := Try.underlying50
  a76 := Try.isAgg50
  z76 := Try.sizeOf50
  v76 := Try.zeroValue50
  t127 := Try.underlying62
  a127 := Try.isAgg62
  z127 := Try.sizeOf62
  v127 := Try.zeroValue62
  t164 := Try.underlying70
  a164 := Try.isAgg70
  z164 := Try.sizeOf70
  v164 := Try.zeroValue70 }
def Try.laysIxB_ren : Go.Shelf.Ren := ⟨fun | 137 => 18 | 217 => 27 | 266 => 33 | n => n, fun | 9 => 9 | 5 => 5 | 3 => 3 | n => n, fun | n => n⟩
theorem Try.laysIxB : Go.Proofs.Lays.n137 Try.prog Try.laysIxB_ren := {
  mixed := by kernel_rfl
  f137 := Try.func18.trans (congrArg some (by kernel_rfl))
  f217 := Try.func27.trans (congrArg some (by kernel_rfl))
  f266 := Try.func33.trans (congrArg some (by kernel_rfl))
  t3 := Try.underlying3
  a3 := Try.isAgg3
  z3 := Try.sizeOf3
  v3 := Try.zeroValue3
  t5 := Try.underlying5
  a5 := Try.isAgg5
  z5 := Try.sizeOf5
  v5 := Try.zeroValue5
  t9 := Try.underlying9
  a9 := Try.isAgg9
  z9 := Try.sizeOf9
  v9 := Try.zeroValue9 }
theorem sq_extra : Builder.Extra Try.prog Try.laysJoin_ren where
  sizeBuilder := by kernel_rfl
  liesBuilder := by kernel_rfl
  t5 := by kernel_rfl
  a5 := fun w => by first | rfl | (simp [isAgg, run_underlying Try.underlying5]; done) | kernel_rfl
  z5 := fun w => by first | rfl | kernel_rfl
  v5 := fun w => by first | rfl | kernel_rfl
  infoByte := by kernel_rfl
  cellsByte := by kernel_rfl
  sizeByte := by kernel_rfl
  neB5 := by decide
def sq_join (l : List ByteArray) (sep : ByteArray) : ByteArray := ⟨(Lib.join (l.map (·.data.toList)) sep.data.toList).toArray⟩
theorem sq_Join (A : Option Addr) (c : Nat) (l : List ByteArray) (sep : ByteArray) (w : World) (hr : Kd.C Kd.string w A l.length l) (hc : l.length ≤ c) (hl : l.length ≤ 140737488355328) (hs : (Lib.join (l.map (·.data.toList)) sep.data.toList).length ≤ 140737488355328) :
    Calls Try.prog 30 #[.slice A l.length c, .string sep] w fun e w' => e = .returned (.string (sq_join l sep)) ∧ Below w.heap.size w w' := by
  by_cases h0 : l = []
  · subst h0
    exact (Any.strings_Join_none Try.laysJoin sq_extra A c sep w).mono fun e w' ⟨he, hw⟩ => ⟨he, hw ▸ Below.refl _ _⟩
  · have hp : 0 < l.length := List.length_pos_iff.2 h0
    obtain ⟨ad, rfl, hx⟩ := Kd.at_string hr 0 (by omega) (by omega)
    have hsp : ad = ⟨ad.block, ad.off, none⟩ := by
      have : w.cell? ad = some (.string (rdOf ByteArray.empty l 0)) := by simpa [Addr.add] using hx
      cases ad with
      | mk b o s =>
        cases s with
        | none => rfl
        | some s =>
          simp only [World.cell?] at this
          split at this <;> simp at this
    have hb : ad.block < w.heap.size := by
      have : w.cell? ad = some (.string (rdOf ByteArray.empty l 0)) := by simpa [Addr.add] using hx
      exact World.block_lt_of_cell? w _ this
    have hcells : ∀ (j : Nat) x, l[j]? = some x → w.cell? ⟨ad.block, ad.off + j, none⟩ = some (.string x) := by
      intro j x hj
      have hjl := (List.getElem?_eq_some_iff.1 hj).1
      obtain ⟨ad2, e, hy⟩ := Kd.at_string hr (j : Int) (by omega) (by omega)
      cases e
      have e2 : rdOf ByteArray.empty l (j : Int) = x := by
        show l.getD (j : Int).toNat ByteArray.empty = x
        simp [List.getD_eq_getElem?_getD, hj]
      rw [e2, Int.toNat_natCast] at hy
      rw [hsp] at hy
      unfold Addr.add at hy
      split at hy
      · rename_i h; subst h; exact hy
      · exact hy
    have := Any.strings_Join Try.laysJoin sq_extra ad.block ad.off c l sep w hcells hb hl hc hs
    rw [← hsp] at this
    exact this
theorem ad_IndexByte (s : ByteArray) (c : Int) (w : World) : Calls Try.prog 18 #[.string s, .int .u8 c] w fun e w' => e = .returned (.int .i64 (Lib.indexByte s.data.toList c.toNat.toUInt8)) ∧ w' = w :=
  Any.strings_IndexByte Try.laysIxB s c w
end Go.Proofs.Ytcjepgofcojeoaa.P
