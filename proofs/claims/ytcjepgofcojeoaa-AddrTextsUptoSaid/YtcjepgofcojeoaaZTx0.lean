import Derived.Test.YtcjepgofcojeoaaZStr
import Derived.Shelf.Strings.BuilderK
namespace Go.Proofs.Ytcjepgofcojeoaa.P
open Go.RowKit Go.Shelf Go.Proofs.YtcjepgofcojeoaaW.PrintWords Go.Proofs.YtcjepgofcojeoaaW.PrintLast Go.Proofs.YtcjepgofcojeoaaW.PrintMore
attribute [-simp] Int.tmod_tmod_of_dvd
set_option linter.unusedVariables false
set_option linter.unusedSimpArgs false
/-! a builder in a block of its own -/
def TB (B b : Nat) (bs : List UInt8) (w : World) : Prop := Lib.IsBuilderF 47 5 B b (Lib.byteCells bs) w
theorem TB.lt {B b : Nat} {bs : List UInt8} {w : World} (h : TB B b bs w) : b < w.heap.size := h.elim (fun h => h.lt) (fun h => h.lt)
theorem TB.below {B b : Nat} {bs : List UInt8} {w w1 : World} (h : TB B b bs w) (hb : Below w.heap.size w w1) : TB B b bs w1 := by
  have key : ∀ p, Lib.BuilderAtF 47 5 B b p (Lib.byteCells bs) w → Lib.BuilderAtF 47 5 B b p (Lib.byteCells bs) w1 := by
    intro p h
    have hlt := h.lt
    obtain ⟨h1, v, h2, h3, h4⟩ := h
    exact ⟨h1, v, (hb.block b hlt).trans h2, h3.kept (row := none) ⟨hb.os, hb.tape, hb.output, hb.size, fun k hk _ => hb.block k hk⟩ (Classical.em _), h4⟩
  exact h.elim (fun h => .inl (key _ h)) (fun h => .inr (key _ h))
theorem tb_write (B b : Nat) (bs : List UInt8) (s : ByteArray) (w : World) (h : TB B b bs w) (hl : bs.length + s.size ≤ 140737488355328) (hB : B ≤ w.heap.size) :
    Calls Try.prog 13 #[.pointer (some ⟨b, 0, none⟩), .string s] w fun e w' => e = .returned (.tuple #[.int .i64 s.size, .nilIface]) ∧ TB B b (bs ++ s.data.toList) w' ∧ Below B w w' ∧ Lib.OthersKept 5 (some b) w w' := by
  refine (Any.Builder_WriteString_k { Try.laysJoin with } sq_extra B b (Lib.byteCells bs) s w h (by rw [Lib.byteCells_length]; exact hl) hB).mono ?_
  rintro e w' ⟨rfl, h1, h2, h3⟩
  refine ⟨rfl, .inr ?_, h2, h3⟩
  rw [Lib.strCells_eq, ← Lib.byteCells_append] at h1
  exact h1
theorem tb_string (B b : Nat) (bs : List UInt8) (w : World) (h : TB B b bs w) (hB : B ≤ w.heap.size) :
    Calls Try.prog 15 #[.pointer (some ⟨b, 0, none⟩)] w fun e w' => e = .returned (.string ⟨bs.toArray⟩) ∧ Below B w w' := by
  refine (Any.Builder_String_any_k { Try.laysJoin with } sq_extra B b bs w h hB).mono ?_
  rintro e w' ⟨rfl, h1, h2, h3⟩
  exact ⟨rfl, h2⟩
theorem tb_new (w : World) : TB w.heap.size w.heap.size [] (w.alloc (.cells #[.pointer none, .slice none 0 0] 47)) := Lib.IsBuilderF.of (Lib.fresh_isBuilder 47 5 w)
end Go.Proofs.Ytcjepgofcojeoaa.P
