/-
  No cell of these rows narrows 'for every input' (looked for: loops, veiled, ifaces, maps, wideKeys, modest, calm, conditions, laid).
  DERIVED. THE GIVEN ROWS OF THIS SEAT. 6 by the template 'for every input the law returns true; each argument reads behind the call as it read before'; 0 by the template 'total and deterministic' (their statements: YtannphcahjchjaaTotals.lean).
  GIVEN WITH THE SEED: the statements are not yours to turn. If you find one false, say at which input.
  Laid BY PROGRAM, IN A SANDBOX (cutbox-rows.mjs): the forced cells as the released guide's own fill.sh prints them over the translation 4aac4790bc72cc6b… (all of the seat's roots in one cut). By AI agents, Wed Nov 11 2026. No macro, syntax, notation, axiom, sorry.
-/
import Derived.Test.YtannphcahjchjaaChecked
import GoSem.Claim
import GoSem.ClaimJoined
import GoSem.ClaimMapViews
import Derived.JoinedTies
import Derived.KernelRfl
namespace Go.Proofs.Ytannphcahjchjaa
/- THE CELL 'sum', in the pinned program and in every row, IS THE sha256 OF THE DUMP (.gsa) THAT YtannphcahjchjaaProg.lean LOADS. Nothing in Lean hashes anything: it is a label: what it is worth is what the hold of that sum in a sandbox is worth. -/
noncomputable def Try.pinned : Pinned := { name := "ytannphcahjchjaa", sum := "4aac4790bc72cc6b0b907f67cfde04cdee4aeaab5d593767f83eb9804c884c15", checked := Try.checked }
namespace Rows
def none {H : Type} : Left H := { results := [], args := [] }

/-- 'letterboxlaw01.CharsDigits': WHATEVER THE INPUT: true; the input reads as it did. -/
def charsDigitsSpec : ChangeSpec := { name := "charsDigits", fn := fun _ => fun
  | [d] => { results := [.lit (.bool true)], args := [d] }
  | _ => none }
def charsDigitsRow : OpenClaim := { program := "ytannphcahjchjaa", sum := "4aac4790bc72cc6b0b907f67cfde04cdee4aeaab5d593767f83eb9804c884c15", func := "letterbox/letterboxlaw01.CharsDigits", spec := "charsDigits", recurses := true, apart := false }
def CharsDigitsSaid : Prop := charsDigitsRow.holds Try.pinned (OpenSpec.ofChange charsDigitsSpec)

/-- ITS FALSE NEIGHBOUR: 'it returns false'. Refute it at one input. -/
def charsDigitsWrong : ChangeSpec := { name := "charsDigits", fn := fun _ => fun
  | [d] => { results := [.lit (.bool false)], args := [d] }
  | _ => none }
def CharsDigitsWrongFalsely : Prop := charsDigitsRow.holds Try.pinned (OpenSpec.ofChange charsDigitsWrong)

/-- 'letterboxlaw01.CharsJoins': WHATEVER THE INPUT: true; the input reads as it did. -/
def charsJoinsSpec : ChangeSpec := { name := "charsJoins", fn := fun _ => fun
  | [d1, d2] => { results := [.lit (.bool true)], args := [d1, d2] }
  | _ => none }
def charsJoinsRow : OpenClaim := { program := "ytannphcahjchjaa", sum := "4aac4790bc72cc6b0b907f67cfde04cdee4aeaab5d593767f83eb9804c884c15", func := "letterbox/letterboxlaw01.CharsJoins", spec := "charsJoins", apart := false }
def CharsJoinsSaid : Prop := charsJoinsRow.holds Try.pinned (OpenSpec.ofChange charsJoinsSpec)

/-- ITS FALSE NEIGHBOUR: 'it returns false'. Refute it at one input. -/
def charsJoinsWrong : ChangeSpec := { name := "charsJoins", fn := fun _ => fun
  | [d1, d2] => { results := [.lit (.bool false)], args := [d1, d2] }
  | _ => none }
def CharsJoinsWrongFalsely : Prop := charsJoinsRow.holds Try.pinned (OpenSpec.ofChange charsJoinsWrong)

/-- 'letterboxlaw01.CharsFold': WHATEVER THE INPUT: true; the input reads as it did. -/
def charsFoldSpec : ChangeSpec := { name := "charsFold", fn := fun _ => fun
  | [d1, d2, d3] => { results := [.lit (.bool true)], args := [d1, d2, d3] }
  | _ => none }
def charsFoldRow : OpenClaim := { program := "ytannphcahjchjaa", sum := "4aac4790bc72cc6b0b907f67cfde04cdee4aeaab5d593767f83eb9804c884c15", func := "letterbox/letterboxlaw01.CharsFold", spec := "charsFold", apart := false }
def CharsFoldSaid : Prop := charsFoldRow.holds Try.pinned (OpenSpec.ofChange charsFoldSpec)

/-- ITS FALSE NEIGHBOUR: 'it returns false'. Refute it at one input. -/
def charsFoldWrong : ChangeSpec := { name := "charsFold", fn := fun _ => fun
  | [d1, d2, d3] => { results := [.lit (.bool false)], args := [d1, d2, d3] }
  | _ => none }
def CharsFoldWrongFalsely : Prop := charsFoldRow.holds Try.pinned (OpenSpec.ofChange charsFoldWrong)

/-- 'letterboxlaw01.CharsBytes': WHATEVER THE INPUT: true; the input reads as it did. -/
def charsBytesSpec : ChangeSpec := { name := "charsBytes", fn := fun _ => fun
  | [d] => { results := [.lit (.bool true)], args := [d] }
  | _ => none }
def charsBytesRow : OpenClaim := { program := "ytannphcahjchjaa", sum := "4aac4790bc72cc6b0b907f67cfde04cdee4aeaab5d593767f83eb9804c884c15", func := "letterbox/letterboxlaw01.CharsBytes", spec := "charsBytes", apart := false }
def CharsBytesSaid : Prop := charsBytesRow.holds Try.pinned (OpenSpec.ofChange charsBytesSpec)

/-- ITS FALSE NEIGHBOUR: 'it returns false'. Refute it at one input. -/
def charsBytesWrong : ChangeSpec := { name := "charsBytes", fn := fun _ => fun
  | [d] => { results := [.lit (.bool false)], args := [d] }
  | _ => none }
def CharsBytesWrongFalsely : Prop := charsBytesRow.holds Try.pinned (OpenSpec.ofChange charsBytesWrong)

/-- 'letterboxlaw01.CharsTexts': WHATEVER THE INPUT: true; the input reads as it did. -/
def charsTextsSpec : ChangeSpec := { name := "charsTexts", fn := fun _ => fun
  | [d1, d2, d3] => { results := [.lit (.bool true)], args := [d1, d2, d3] }
  | _ => none }
def charsTextsRow : OpenClaim := { program := "ytannphcahjchjaa", sum := "4aac4790bc72cc6b0b907f67cfde04cdee4aeaab5d593767f83eb9804c884c15", func := "letterbox/letterboxlaw01.CharsTexts", spec := "charsTexts", apart := false }
def CharsTextsSaid : Prop := charsTextsRow.holds Try.pinned (OpenSpec.ofChange charsTextsSpec)

/-- ITS FALSE NEIGHBOUR: 'it returns false'. Refute it at one input. -/
def charsTextsWrong : ChangeSpec := { name := "charsTexts", fn := fun _ => fun
  | [d1, d2, d3] => { results := [.lit (.bool false)], args := [d1, d2, d3] }
  | _ => none }
def CharsTextsWrongFalsely : Prop := charsTextsRow.holds Try.pinned (OpenSpec.ofChange charsTextsWrong)

/-- 'letterboxlaw01.CharsTrims': WHATEVER THE INPUT: true; the input reads as it did. -/
def charsTrimsSpec : ChangeSpec := { name := "charsTrims", fn := fun _ => fun
  | [d1, d2] => { results := [.lit (.bool true)], args := [d1, d2] }
  | _ => none }
def charsTrimsRow : OpenClaim := { program := "ytannphcahjchjaa", sum := "4aac4790bc72cc6b0b907f67cfde04cdee4aeaab5d593767f83eb9804c884c15", func := "letterbox/letterboxlaw01.CharsTrims", spec := "charsTrims", apart := false }
def CharsTrimsSaid : Prop := charsTrimsRow.holds Try.pinned (OpenSpec.ofChange charsTrimsSpec)

/-- ITS FALSE NEIGHBOUR: 'it returns false'. Refute it at one input. -/
def charsTrimsWrong : ChangeSpec := { name := "charsTrims", fn := fun _ => fun
  | [d1, d2] => { results := [.lit (.bool false)], args := [d1, d2] }
  | _ => none }
def CharsTrimsWrongFalsely : Prop := charsTrimsRow.holds Try.pinned (OpenSpec.ofChange charsTrimsWrong)

/- THE SECOND FORM. 'bulk': how many values and letters a reading holds, each counted each time it is reached (what is shared counts as often as it is met; a slice's spare places count too). A statement '..UptoSaid' is the law's where the arguments, and the package variables that the reading takes, are together of bulk at most 1048576: NARROWER than '..Said'. Prove '..Said' where nothing that the law and all that it calls make is longer than what came in: it says more and counts as full. Else prove '..UptoSaid'. A law counts once. -/
mutual
def uptoBulk {H : Type} : DataW H → Nat
  | .lit (.string bytes) => bytes.length + 1
  | .lit _ => 1
  | .nil => 1
  | .ptr d => uptoBulk d + 1
  | .slice elems spare => uptoBulkAll elems + uptoBulkAll spare + 1
  | .agg parts => uptoBulkAll parts + 1
  | .iface _ d => uptoBulk d + 1
  | .map entries => uptoBulkEntries entries + 1
  | .held _ => 1
def uptoBulkAll {H : Type} : List (DataW H) → Nat
  | [] => 0
  | d :: r => uptoBulk d + uptoBulkAll r
def uptoBulkEntries {H : Type} : List (Lit × DataW H) → Nat
  | [] => 0
  | x :: r => uptoBulkEntry x + uptoBulkEntries r
def uptoBulkEntry {H : Type} : Lit × DataW H → Nat
  | (.string bytes, d) => bytes.length + uptoBulk d + 1
  | (_, d) => uptoBulk d + 1
 end
def uptoSmall : (H : Type) → List (DataW H) → Bool := fun _ ds => decide (uptoBulkAll ds ≤ 1048576)
def OpenSpec.upto (s : _root_.Go.ChangeSpec) : _root_.Go.OpenSpec := { _root_.Go.OpenSpec.ofChange s with cond := some uptoSmall }

/-- 'letterboxlaw01.CharsDigits', WHERE WHAT IT READS IS OF BULK AT MOST 1048576: true; the input reads as it did. -/
def charsDigitsUptoRow : OpenClaim := { program := "ytannphcahjchjaa", sum := "4aac4790bc72cc6b0b907f67cfde04cdee4aeaab5d593767f83eb9804c884c15", func := "letterbox/letterboxlaw01.CharsDigits", spec := "charsDigits", recurses := true, apart := false, narrowed := true }
def CharsDigitsUptoSaid : Prop := charsDigitsUptoRow.holds Try.pinned (OpenSpec.upto charsDigitsSpec)

/-- 'letterboxlaw01.CharsJoins', WHERE WHAT IT READS IS OF BULK AT MOST 1048576: true; the input reads as it did. -/
def charsJoinsUptoRow : OpenClaim := { program := "ytannphcahjchjaa", sum := "4aac4790bc72cc6b0b907f67cfde04cdee4aeaab5d593767f83eb9804c884c15", func := "letterbox/letterboxlaw01.CharsJoins", spec := "charsJoins", apart := false, narrowed := true }
def CharsJoinsUptoSaid : Prop := charsJoinsUptoRow.holds Try.pinned (OpenSpec.upto charsJoinsSpec)

/-- 'letterboxlaw01.CharsFold', WHERE WHAT IT READS IS OF BULK AT MOST 1048576: true; the input reads as it did. -/
def charsFoldUptoRow : OpenClaim := { program := "ytannphcahjchjaa", sum := "4aac4790bc72cc6b0b907f67cfde04cdee4aeaab5d593767f83eb9804c884c15", func := "letterbox/letterboxlaw01.CharsFold", spec := "charsFold", apart := false, narrowed := true }
def CharsFoldUptoSaid : Prop := charsFoldUptoRow.holds Try.pinned (OpenSpec.upto charsFoldSpec)

/-- 'letterboxlaw01.CharsBytes', WHERE WHAT IT READS IS OF BULK AT MOST 1048576: true; the input reads as it did. -/
def charsBytesUptoRow : OpenClaim := { program := "ytannphcahjchjaa", sum := "4aac4790bc72cc6b0b907f67cfde04cdee4aeaab5d593767f83eb9804c884c15", func := "letterbox/letterboxlaw01.CharsBytes", spec := "charsBytes", apart := false, narrowed := true }
def CharsBytesUptoSaid : Prop := charsBytesUptoRow.holds Try.pinned (OpenSpec.upto charsBytesSpec)

/-- 'letterboxlaw01.CharsTexts', WHERE WHAT IT READS IS OF BULK AT MOST 1048576: true; the input reads as it did. -/
def charsTextsUptoRow : OpenClaim := { program := "ytannphcahjchjaa", sum := "4aac4790bc72cc6b0b907f67cfde04cdee4aeaab5d593767f83eb9804c884c15", func := "letterbox/letterboxlaw01.CharsTexts", spec := "charsTexts", apart := false, narrowed := true }
def CharsTextsUptoSaid : Prop := charsTextsUptoRow.holds Try.pinned (OpenSpec.upto charsTextsSpec)

/-- 'letterboxlaw01.CharsTrims', WHERE WHAT IT READS IS OF BULK AT MOST 1048576: true; the input reads as it did. -/
def charsTrimsUptoRow : OpenClaim := { program := "ytannphcahjchjaa", sum := "4aac4790bc72cc6b0b907f67cfde04cdee4aeaab5d593767f83eb9804c884c15", func := "letterbox/letterboxlaw01.CharsTrims", spec := "charsTrims", apart := false, narrowed := true }
def CharsTrimsUptoSaid : Prop := charsTrimsUptoRow.holds Try.pinned (OpenSpec.upto charsTrimsSpec)

end Rows
end Go.Proofs.Ytannphcahjchjaa
