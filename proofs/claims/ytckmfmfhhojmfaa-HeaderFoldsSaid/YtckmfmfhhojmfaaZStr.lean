import Derived.Test.YtckmfmfhhojmfaaZEm
import Derived.Shelf.Small.Strs
import Derived.Shelf.Strings.Builder1
import Derived.Shelf.Strings.BuilderK
namespace Go.Proofs.Ytckmfmfhhojmfaa.P
open Go.RowKit Go.Shelf Go.Proofs.YtckmfmfhhojmfaaW.PrintWords Go.Proofs.YtckmfmfhhojmfaaW.PrintLast Go.Proofs.YtckmfmfhhojmfaaW.PrintMore
attribute [-simp] Int.tmod_tmod_of_dvd
set_option linter.unusedVariables false
set_option linter.unusedSimpArgs false
def Try.laysIxB_ren : Go.Shelf.Ren := ⟨fun | 137 => 28 | 217 => 37 | 266 => 40 | n => n, fun | 9 => 9 | 5 => 5 | 3 => 3 | n => n, fun | n => n⟩
theorem Try.laysIxB : Go.Proofs.Lays.n137 Try.prog Try.laysIxB_ren := {
  mixed := by kernel_rfl
  f137 := Try.func28.trans (congrArg some (by kernel_rfl))
  f217 := Try.func37.trans (congrArg some (by kernel_rfl))
  f266 := Try.func40.trans (congrArg some (by kernel_rfl))
  t3 := Try.underlying3
  a3 := Try.isAgg3
  z3 := Try.sizeOf3
  v3 := Try.zeroValue3
  t5 := Try.underlying5
  a5 := Try.isAgg5
  z5 := Try.sizeOf5
  v5 := Try.zeroValue5
  t9 := Try.underlying9
  a9 := Try.isAgg9
  z9 := Try.sizeOf9
  v9 := Try.zeroValue9 }
def Try.laysBW_ren : Go.Shelf.Ren := ⟨fun | 166 => 15 | 240 => 29 | 276 => 38 | n => n, fun | 9 => 9 | 3 => 3 | 4 => 4 | 0 => 0 | 20 => 20 | 72 => 48 | 76 => 51 | 70 => 46 | 37 => 22 | 75 => 50 | 127 => 68 | 164 => 74 | 5 => 5 | 80 => 54 | n => n, fun | n => n⟩
theorem Try.laysBW : Go.Proofs.Lays.n166 Try.prog Try.laysBW_ren := {
  mixed := by kernel_rfl
  f166 := Try.func15.trans (congrArg some (by kernel_rfl))
  f240 := Try.func29.trans (congrArg some (by kernel_rfl))
  f276 := Try.func38.trans (congrArg some (by kernel_rfl))
  t0 := Try.underlying0
  a0 := Try.isAgg0
  z0 := Try.sizeOf0
  v0 := Try.zeroValue0
  t3 := Try.underlying3
  a3 := Try.isAgg3
  z3 := Try.sizeOf3
  v3 := Try.zeroValue3
  t4 := Try.underlying4
  a4 := Try.isAgg4
  z4 := Try.sizeOf4
  v4 := Try.zeroValue4
  t9 := Try.underlying9
  a9 := Try.isAgg9
  z9 := Try.sizeOf9
  v9 := Try.zeroValue9
  t20 := Try.underlying20
  a20 := Try.isAgg20
  z20 := Try.sizeOf20
  v20 := Try.zeroValue20
  t37 := Try.underlying22
  a37 := Try.isAgg22
  z37 := Try.sizeOf22
  v37 := Try.zeroValue22
  t70 := Try.underlying46
  a70 := Try.isAgg46
  z70 := Try.sizeOf46
  v70 := Try.zeroValue46
  t72 := Try.underlying48
  a72 := Try.isAgg48
  z72 := Try.sizeOf48
  v72 := Try.zeroValue48
  t75 := Try.underlying50
  a75 := Try.isAgg50
  z75 := Try.sizeOf50
  v75 := Try.zeroValue50
  t164 := Try.underlying74
  a164 := Try.isAgg74
  z164 := Try.sizeOf74
  v164 := Try.zeroValue74 }
def Try.laysBS_ren : Go.Shelf.Ren := ⟨fun | 169 => 17 | n => n, fun | 70 => 46 | 9 => 9 | 0 => 0 | 72 => 48 | 37 => 22 | 127 => 68 | 3 => 3 | 5 => 5 | n => n, fun | n => n⟩
theorem Try.laysBS : Go.Proofs.Lays.n169 Try.prog Try.laysBS_ren := {
  mixed := by kernel_rfl
  f169 := Try.func17.trans (congrArg some (by kernel_rfl))
  t0 := Try.underlying0
  a0 := Try.isAgg0
  z0 := Try.sizeOf0
  v0 := Try.zeroValue0
  t3 := Try.underlying3
  a3 := Try.isAgg3
  z3 := Try.sizeOf3
  v3 := Try.zeroValue3
  t9 := Try.underlying9
  a9 := Try.isAgg9
  z9 := Try.sizeOf9
  v9 := Try.zeroValue9
  t37 := Try.underlying22
  a37 := Try.isAgg22
  z37 := Try.sizeOf22
  v37 := Try.zeroValue22
  t70 := Try.underlying46
  a70 := Try.isAgg46
  z70 := Try.sizeOf46
  v70 := Try.zeroValue46
  t72 := Try.underlying48
  a72 := Try.isAgg48
  z72 := Try.sizeOf48
  v72 := Try.zeroValue48
  t127 := Try.underlying68
  a127 := Try.isAgg68
  z127 := Try.sizeOf68
  v127 := Try.zeroValue68 }
theorem hd_IndexByte (s : ByteArray) (c : Int) (w : World) : Calls Try.prog 28 #[.string s, .int .u8 c] w fun e w' => e = .returned (.int .i64 (Lib.indexByte s.data.toList c.toNat.toUInt8)) ∧ w' = w :=
  Any.strings_IndexByte Try.laysIxB s c w
theorem hd_extraW : Builder.Extra Try.prog Try.laysBW_ren where
  sizeBuilder := by kernel_rfl
  liesBuilder := by kernel_rfl
  t5 := Try.underlying5
  a5 := Try.isAgg5
  z5 := Try.sizeOf5
  v5 := Try.zeroValue5
  infoByte := by kernel_rfl
  cellsByte := by kernel_rfl
  sizeByte := by kernel_rfl
  neB5 := by decide
theorem hd_extraS : Builder.Extra Try.prog Try.laysBS_ren where
  sizeBuilder := by kernel_rfl
  liesBuilder := by kernel_rfl
  t5 := Try.underlying5
  a5 := Try.isAgg5
  z5 := Try.sizeOf5
  v5 := Try.zeroValue5
  infoByte := by kernel_rfl
  cellsByte := by kernel_rfl
  sizeByte := by kernel_rfl
  neB5 := by decide
theorem hd_Write (B b : Nat) (bs : List Value) (s : ByteArray) (w : World) (h : Lib.IsBuilder 48 5 B b bs w) (hlen : bs.length + s.size ≤ 140737488355328) (hBw : B ≤ w.heap.size) :
    Calls Try.prog 15 #[.pointer (some ⟨b, 0, none⟩), .string s] w fun e w' => e = .returned (.tuple #[.int .i64 s.size, .nilIface]) ∧ (Lib.BuilderAt 48 5 B b (.pointer (some ⟨b, 0, none⟩)) (bs ++ Lib.strCells s) w' ∧ Below B w w') :=
  Any.Builder_WriteString Try.laysBW hd_extraW B b bs s w h hlen hBw
theorem hd_String (B b : Nat) (l : List UInt8) (w : World) (h : Lib.IsBuilder 48 5 B b (Lib.byteCells l) w) (hBw : B ≤ w.heap.size) :
    Calls Try.prog 17 #[.pointer (some ⟨b, 0, none⟩)] w fun e w' => e = .returned (.string ⟨l.toArray⟩) ∧ Below B w w' :=
  Any.Builder_String_any Try.laysBS hd_extraS B b l w h hBw
theorem hd_WriteK (B b : Nat) (bs : List Value) (s : ByteArray) (w : World) (h : Lib.IsBuilderF 48 5 B b bs w) (hlen : bs.length + s.size ≤ 140737488355328) (hBw : B ≤ w.heap.size) :
    Calls Try.prog 15 #[.pointer (some ⟨b, 0, none⟩), .string s] w fun e w' => e = .returned (.tuple #[.int .i64 s.size, .nilIface]) ∧ (Lib.BuilderAtF 48 5 B b (.pointer (some ⟨b, 0, none⟩)) (bs ++ Lib.strCells s) w' ∧ Below B w w' ∧ Lib.OthersKept 5 (some b) w w') :=
  Any.Builder_WriteString_k Try.laysBW hd_extraW B b bs s w h hlen hBw
theorem hd_StringK (B b : Nat) (l : List UInt8) (w : World) (h : Lib.IsBuilderF 48 5 B b (Lib.byteCells l) w) (hBw : B ≤ w.heap.size) :
    Calls Try.prog 17 #[.pointer (some ⟨b, 0, none⟩)] w fun e w' => e = .returned (.string ⟨l.toArray⟩) ∧ (Lib.IsBuilderF 48 5 B b (Lib.byteCells l) w' ∧ Below B w w' ∧ Lib.OthersKept 5 (some b) w w') :=
  Any.Builder_String_any_k Try.laysBS hd_extraS B b l w h hBw
theorem hd_builderAt {B b : Nat} {p : Value} {bs : List Value} {X Y : World} (h : Lib.BuilderAtF 48 5 B b p bs X) (hb : Below X.heap.size X Y) : Lib.BuilderAtF 48 5 B b p bs Y := by
  obtain ⟨h1, v, h2, ⟨h3, h4⟩, h5⟩ := h
  have lb := (Array.getElem?_eq_some_iff.1 h2).1
  refine ⟨h1, v, (hb.block b lb).trans h2, ⟨h3, ?_⟩, h5⟩
  rcases h4 with h4 | ⟨g, cap, cur, fz, e, q, hq⟩
  · exact .inl h4
  · exact .inr ⟨g, cap, cur, fz, e, q, by
      have lg := (Array.getElem?_eq_some_iff.1 hq.1).1
      exact ⟨(hb.block g lg).trans hq.1, hq.2⟩⟩
theorem hd_builder {B b : Nat} {bs : List Value} {X Y : World} (h : Lib.IsBuilderF 48 5 B b bs X) (hb : Below X.heap.size X Y) : Lib.IsBuilderF 48 5 B b bs Y :=
  h.elim (fun x => .inl (hd_builderAt x hb)) (fun x => .inr (hd_builderAt x hb))
end Go.Proofs.Ytckmfmfhhojmfaa.P
