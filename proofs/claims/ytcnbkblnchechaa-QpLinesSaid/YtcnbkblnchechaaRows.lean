/-
  No cell of these rows narrows 'for every input' (looked for: loops, veiled, ifaces, maps, wideKeys, modest, calm, conditions, laid).
  DERIVED. THE GIVEN ROWS OF THIS SEAT. 4 by the template 'for every input the law returns true; each argument reads behind the call as it read before'; 0 by the template 'total and deterministic' (their statements: YtcnbkblnchechaaTotals.lean).
  GIVEN WITH THE SEED: the statements are not yours to turn. If you find one false, say at which input.
  Laid BY PROGRAM, IN A SANDBOX (cutbox-rows.mjs): the forced cells as the released guide's own fill.sh prints them over the translation 8376bab860b7b4f0… (all of the seat's roots in one cut). By AI agents, Wed Nov 11 2026. No macro, syntax, notation, axiom, sorry.
-/
import Derived.Test.YtcnbkblnchechaaChecked
import GoSem.Claim
import GoSem.ClaimJoined
import GoSem.ClaimMapViews
import Derived.JoinedTies
import Derived.KernelRfl
namespace Go.Proofs.Ytcnbkblnchechaa
/- THE CELL 'sum', in the pinned program and in every row, IS THE sha256 OF THE DUMP (.gsa) THAT YtcnbkblnchechaaProg.lean LOADS. Nothing in Lean hashes anything: it is a label: what it is worth is what the hold of that sum in a sandbox is worth. -/
noncomputable def Try.pinned : Pinned := { name := "ytcnbkblnchechaa", sum := "8376bab860b7b4f0f47e3a36b98c8214c62a2773ca4a61db18d414f46287816c", checked := Try.checked }
namespace Rows
def none {H : Type} : Left H := { results := [], args := [] }

/-- 'letterboxlaw03.QpDecodes': WHATEVER THE INPUT: true; the input reads as it did. -/
def qpDecodesSpec : ChangeSpec := { name := "qpDecodes", fn := fun _ => fun
  | [d] => { results := [.lit (.bool true)], args := [d] }
  | _ => none }
def qpDecodesRow : OpenClaim := { program := "ytcnbkblnchechaa", sum := "8376bab860b7b4f0f47e3a36b98c8214c62a2773ca4a61db18d414f46287816c", func := "letterbox/letterboxlaw03.QpDecodes", spec := "qpDecodes", apart := false }
def QpDecodesSaid : Prop := qpDecodesRow.holds Try.pinned (OpenSpec.ofChange qpDecodesSpec)

/-- ITS FALSE NEIGHBOUR: 'it returns false'. Refute it at one input. -/
def qpDecodesWrong : ChangeSpec := { name := "qpDecodes", fn := fun _ => fun
  | [d] => { results := [.lit (.bool false)], args := [d] }
  | _ => none }
def QpDecodesWrongFalsely : Prop := qpDecodesRow.holds Try.pinned (OpenSpec.ofChange qpDecodesWrong)

/-- 'letterboxlaw03.QpBack': WHATEVER THE INPUT: true; the input reads as it did. -/
def qpBackSpec : ChangeSpec := { name := "qpBack", fn := fun _ => fun
  | [d1, d2] => { results := [.lit (.bool true)], args := [d1, d2] }
  | _ => none }
def qpBackRow : OpenClaim := { program := "ytcnbkblnchechaa", sum := "8376bab860b7b4f0f47e3a36b98c8214c62a2773ca4a61db18d414f46287816c", func := "letterbox/letterboxlaw03.QpBack", spec := "qpBack", apart := false }
def QpBackSaid : Prop := qpBackRow.holds Try.pinned (OpenSpec.ofChange qpBackSpec)

/-- ITS FALSE NEIGHBOUR: 'it returns false'. Refute it at one input. -/
def qpBackWrong : ChangeSpec := { name := "qpBack", fn := fun _ => fun
  | [d1, d2] => { results := [.lit (.bool false)], args := [d1, d2] }
  | _ => none }
def QpBackWrongFalsely : Prop := qpBackRow.holds Try.pinned (OpenSpec.ofChange qpBackWrong)

/-- 'letterboxlaw03.QpLines': WHATEVER THE INPUT: true; the input reads as it did. -/
def qpLinesSpec : ChangeSpec := { name := "qpLines", fn := fun _ => fun
  | [d1, d2] => { results := [.lit (.bool true)], args := [d1, d2] }
  | _ => none }
def qpLinesRow : OpenClaim := { program := "ytcnbkblnchechaa", sum := "8376bab860b7b4f0f47e3a36b98c8214c62a2773ca4a61db18d414f46287816c", func := "letterbox/letterboxlaw03.QpLines", spec := "qpLines", apart := false }
def QpLinesSaid : Prop := qpLinesRow.holds Try.pinned (OpenSpec.ofChange qpLinesSpec)

/-- ITS FALSE NEIGHBOUR: 'it returns false'. Refute it at one input. -/
def qpLinesWrong : ChangeSpec := { name := "qpLines", fn := fun _ => fun
  | [d1, d2] => { results := [.lit (.bool false)], args := [d1, d2] }
  | _ => none }
def QpLinesWrongFalsely : Prop := qpLinesRow.holds Try.pinned (OpenSpec.ofChange qpLinesWrong)

/-- 'letterboxlaw03.QpBroken': WHATEVER THE INPUT: true; the input reads as it did. -/
def qpBrokenSpec : ChangeSpec := { name := "qpBroken", fn := fun _ => fun
  | [d1, d2, d3] => { results := [.lit (.bool true)], args := [d1, d2, d3] }
  | _ => none }
def qpBrokenRow : OpenClaim := { program := "ytcnbkblnchechaa", sum := "8376bab860b7b4f0f47e3a36b98c8214c62a2773ca4a61db18d414f46287816c", func := "letterbox/letterboxlaw03.QpBroken", spec := "qpBroken", apart := false }
def QpBrokenSaid : Prop := qpBrokenRow.holds Try.pinned (OpenSpec.ofChange qpBrokenSpec)

/-- ITS FALSE NEIGHBOUR: 'it returns false'. Refute it at one input. -/
def qpBrokenWrong : ChangeSpec := { name := "qpBroken", fn := fun _ => fun
  | [d1, d2, d3] => { results := [.lit (.bool false)], args := [d1, d2, d3] }
  | _ => none }
def QpBrokenWrongFalsely : Prop := qpBrokenRow.holds Try.pinned (OpenSpec.ofChange qpBrokenWrong)

/- THE SECOND FORM. 'bulk': how many values and letters a reading holds, each counted each time it is reached (what is shared counts as often as it is met; a slice's spare places count too). A statement '..UptoSaid' is the law's where the arguments, and the package variables that the reading takes, are together of bulk at most 1048576: NARROWER than '..Said'. Prove '..Said' where nothing that the law and all that it calls make is longer than what came in: it says more and counts as full. Else prove '..UptoSaid'. A law counts once. -/
mutual
def uptoBulk {H : Type} : DataW H → Nat
  | .lit (.string bytes) => bytes.length + 1
  | .lit _ => 1
  | .nil => 1
  | .ptr d => uptoBulk d + 1
  | .slice elems spare => uptoBulkAll elems + uptoBulkAll spare + 1
  | .agg parts => uptoBulkAll parts + 1
  | .iface _ d => uptoBulk d + 1
  | .map entries => uptoBulkEntries entries + 1
  | .held _ => 1
def uptoBulkAll {H : Type} : List (DataW H) → Nat
  | [] => 0
  | d :: r => uptoBulk d + uptoBulkAll r
def uptoBulkEntries {H : Type} : List (Lit × DataW H) → Nat
  | [] => 0
  | x :: r => uptoBulkEntry x + uptoBulkEntries r
def uptoBulkEntry {H : Type} : Lit × DataW H → Nat
  | (.string bytes, d) => bytes.length + uptoBulk d + 1
  | (_, d) => uptoBulk d + 1
 end
def uptoSmall : (H : Type) → List (DataW H) → Bool := fun _ ds => decide (uptoBulkAll ds ≤ 1048576)
def OpenSpec.upto (s : _root_.Go.ChangeSpec) : _root_.Go.OpenSpec := { _root_.Go.OpenSpec.ofChange s with cond := some uptoSmall }

/-- 'letterboxlaw03.QpDecodes', WHERE WHAT IT READS IS OF BULK AT MOST 1048576: true; the input reads as it did. -/
def qpDecodesUptoRow : OpenClaim := { program := "ytcnbkblnchechaa", sum := "8376bab860b7b4f0f47e3a36b98c8214c62a2773ca4a61db18d414f46287816c", func := "letterbox/letterboxlaw03.QpDecodes", spec := "qpDecodes", apart := false, narrowed := true }
def QpDecodesUptoSaid : Prop := qpDecodesUptoRow.holds Try.pinned (OpenSpec.upto qpDecodesSpec)

/-- 'letterboxlaw03.QpBack', WHERE WHAT IT READS IS OF BULK AT MOST 1048576: true; the input reads as it did. -/
def qpBackUptoRow : OpenClaim := { program := "ytcnbkblnchechaa", sum := "8376bab860b7b4f0f47e3a36b98c8214c62a2773ca4a61db18d414f46287816c", func := "letterbox/letterboxlaw03.QpBack", spec := "qpBack", apart := false, narrowed := true }
def QpBackUptoSaid : Prop := qpBackUptoRow.holds Try.pinned (OpenSpec.upto qpBackSpec)

/-- 'letterboxlaw03.QpLines', WHERE WHAT IT READS IS OF BULK AT MOST 1048576: true; the input reads as it did. -/
def qpLinesUptoRow : OpenClaim := { program := "ytcnbkblnchechaa", sum := "8376bab860b7b4f0f47e3a36b98c8214c62a2773ca4a61db18d414f46287816c", func := "letterbox/letterboxlaw03.QpLines", spec := "qpLines", apart := false, narrowed := true }
def QpLinesUptoSaid : Prop := qpLinesUptoRow.holds Try.pinned (OpenSpec.upto qpLinesSpec)

/-- 'letterboxlaw03.QpBroken', WHERE WHAT IT READS IS OF BULK AT MOST 1048576: true; the input reads as it did. -/
def qpBrokenUptoRow : OpenClaim := { program := "ytcnbkblnchechaa", sum := "8376bab860b7b4f0f47e3a36b98c8214c62a2773ca4a61db18d414f46287816c", func := "letterbox/letterboxlaw03.QpBroken", spec := "qpBroken", apart := false, narrowed := true }
def QpBrokenUptoSaid : Prop := qpBrokenUptoRow.holds Try.pinned (OpenSpec.upto qpBrokenSpec)

end Rows
end Go.Proofs.Ytcnbkblnchechaa
