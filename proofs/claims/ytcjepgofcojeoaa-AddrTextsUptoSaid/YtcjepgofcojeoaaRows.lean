/-
  No cell of these rows narrows 'for every input' (looked for: loops, veiled, ifaces, maps, wideKeys, modest, calm, conditions, laid).
  DERIVED. THE GIVEN ROWS OF THIS SEAT. 4 by the template 'for every input the law returns true; each argument reads behind the call as it read before'; 0 by the template 'total and deterministic' (their statements: YtcjepgofcojeoaaTotals.lean).
  GIVEN WITH THE SEED: the statements are not yours to turn. If you find one false, say at which input.
  Laid BY PROGRAM, IN A SANDBOX (cutbox-rows.mjs): the forced cells as the released guide's own fill.sh prints them over the translation 3122d61e5658e6e3… (all of the seat's roots in one cut). By AI agents, Wed Nov 11 2026. No macro, syntax, notation, axiom, sorry.
-/
import Derived.Test.YtcjepgofcojeoaaChecked
import GoSem.Claim
import GoSem.ClaimJoined
import GoSem.ClaimMapViews
import Derived.JoinedTies
import Derived.KernelRfl
namespace Go.Proofs.Ytcjepgofcojeoaa
/- THE CELL 'sum', in the pinned program and in every row, IS THE sha256 OF THE DUMP (.gsa) THAT YtcjepgofcojeoaaProg.lean LOADS. Nothing in Lean hashes anything: it is a label: what it is worth is what the hold of that sum in a sandbox is worth. -/
noncomputable def Try.pinned : Pinned := { name := "ytcjepgofcojeoaa", sum := "3122d61e5658e6e31d6a7cd157b8a88582485e2edd260d6de8b614fc2dff7cab", checked := Try.checked }
namespace Rows
def none {H : Type} : Left H := { results := [], args := [] }

/-- 'letterboxlaw10.AddrParts': WHATEVER THE INPUT: true; the input reads as it did. -/
def addrPartsSpec : ChangeSpec := { name := "addrParts", fn := fun _ => fun
  | [d1, d2] => { results := [.lit (.bool true)], args := [d1, d2] }
  | _ => none }
def addrPartsRow : OpenClaim := { program := "ytcjepgofcojeoaa", sum := "3122d61e5658e6e31d6a7cd157b8a88582485e2edd260d6de8b614fc2dff7cab", func := "letterbox/letterboxlaw10.AddrParts", spec := "addrParts", inPlace := ["internal/bytealg.IndexByteString", "internal/abi.NoEscape", "internal/bytealg.MakeNoZero"], recurses := true, apart := false }
def AddrPartsSaid : Prop := addrPartsRow.holds Try.pinned (OpenSpec.ofChange addrPartsSpec)

/-- ITS FALSE NEIGHBOUR: 'it returns false'. Refute it at one input. -/
def addrPartsWrong : ChangeSpec := { name := "addrParts", fn := fun _ => fun
  | [d1, d2] => { results := [.lit (.bool false)], args := [d1, d2] }
  | _ => none }
def AddrPartsWrongFalsely : Prop := addrPartsRow.holds Try.pinned (OpenSpec.ofChange addrPartsWrong)

/-- 'letterboxlaw10.AddrBroken': WHATEVER THE INPUT: true; the input reads as it did. -/
def addrBrokenSpec : ChangeSpec := { name := "addrBroken", fn := fun _ => fun
  | [d1, d2, d3] => { results := [.lit (.bool true)], args := [d1, d2, d3] }
  | _ => none }
def addrBrokenRow : OpenClaim := { program := "ytcjepgofcojeoaa", sum := "3122d61e5658e6e31d6a7cd157b8a88582485e2edd260d6de8b614fc2dff7cab", func := "letterbox/letterboxlaw10.AddrBroken", spec := "addrBroken", inPlace := ["internal/bytealg.IndexByteString", "internal/abi.NoEscape", "internal/bytealg.MakeNoZero"], recurses := true, apart := false }
def AddrBrokenSaid : Prop := addrBrokenRow.holds Try.pinned (OpenSpec.ofChange addrBrokenSpec)

/-- ITS FALSE NEIGHBOUR: 'it returns false'. Refute it at one input. -/
def addrBrokenWrong : ChangeSpec := { name := "addrBroken", fn := fun _ => fun
  | [d1, d2, d3] => { results := [.lit (.bool false)], args := [d1, d2, d3] }
  | _ => none }
def AddrBrokenWrongFalsely : Prop := addrBrokenRow.holds Try.pinned (OpenSpec.ofChange addrBrokenWrong)

/-- 'letterboxlaw10.AddrTexts': WHATEVER THE INPUT: true; the input reads as it did. -/
def addrTextsSpec : ChangeSpec := { name := "addrTexts", fn := fun _ => fun
  | [d] => { results := [.lit (.bool true)], args := [d] }
  | _ => none }
def addrTextsRow : OpenClaim := { program := "ytcjepgofcojeoaa", sum := "3122d61e5658e6e31d6a7cd157b8a88582485e2edd260d6de8b614fc2dff7cab", func := "letterbox/letterboxlaw10.AddrTexts", spec := "addrTexts", inPlace := ["internal/bytealg.IndexByteString", "internal/abi.NoEscape", "internal/bytealg.MakeNoZero"], recurses := true, apart := false }
def AddrTextsSaid : Prop := addrTextsRow.holds Try.pinned (OpenSpec.ofChange addrTextsSpec)

/-- ITS FALSE NEIGHBOUR: 'it returns false'. Refute it at one input. -/
def addrTextsWrong : ChangeSpec := { name := "addrTexts", fn := fun _ => fun
  | [d] => { results := [.lit (.bool false)], args := [d] }
  | _ => none }
def AddrTextsWrongFalsely : Prop := addrTextsRow.holds Try.pinned (OpenSpec.ofChange addrTextsWrong)

/-- 'letterboxlaw10.AddrBack': WHATEVER THE INPUT: true; the input reads as it did. -/
def addrBackSpec : ChangeSpec := { name := "addrBack", fn := fun _ => fun
  | [d1, d2, d3, d4] => { results := [.lit (.bool true)], args := [d1, d2, d3, d4] }
  | _ => none }
def addrBackRow : OpenClaim := { program := "ytcjepgofcojeoaa", sum := "3122d61e5658e6e31d6a7cd157b8a88582485e2edd260d6de8b614fc2dff7cab", func := "letterbox/letterboxlaw10.AddrBack", spec := "addrBack", inPlace := ["internal/bytealg.IndexByteString", "internal/abi.NoEscape", "internal/bytealg.MakeNoZero"], recurses := true, apart := false }
def AddrBackSaid : Prop := addrBackRow.holds Try.pinned (OpenSpec.ofChange addrBackSpec)

/-- ITS FALSE NEIGHBOUR: 'it returns false'. Refute it at one input. -/
def addrBackWrong : ChangeSpec := { name := "addrBack", fn := fun _ => fun
  | [d1, d2, d3, d4] => { results := [.lit (.bool false)], args := [d1, d2, d3, d4] }
  | _ => none }
def AddrBackWrongFalsely : Prop := addrBackRow.holds Try.pinned (OpenSpec.ofChange addrBackWrong)

/- THE SECOND FORM. 'bulk': how many values and letters a reading holds, each counted each time it is reached (what is shared counts as often as it is met; a slice's spare places count too). A statement '..UptoSaid' is the law's where the arguments, and the package variables that the reading takes, are together of bulk at most 1048576: NARROWER than '..Said'. Prove '..Said' where nothing that the law and all that it calls make is longer than what came in: it says more and counts as full. Else prove '..UptoSaid'. A law counts once. -/
mutual
def uptoBulk {H : Type} : DataW H → Nat
  | .lit (.string bytes) => bytes.length + 1
  | .lit _ => 1
  | .nil => 1
  | .ptr d => uptoBulk d + 1
  | .slice elems spare => uptoBulkAll elems + uptoBulkAll spare + 1
  | .agg parts => uptoBulkAll parts + 1
  | .iface _ d => uptoBulk d + 1
  | .map entries => uptoBulkEntries entries + 1
  | .held _ => 1
def uptoBulkAll {H : Type} : List (DataW H) → Nat
  | [] => 0
  | d :: r => uptoBulk d + uptoBulkAll r
def uptoBulkEntries {H : Type} : List (Lit × DataW H) → Nat
  | [] => 0
  | x :: r => uptoBulkEntry x + uptoBulkEntries r
def uptoBulkEntry {H : Type} : Lit × DataW H → Nat
  | (.string bytes, d) => bytes.length + uptoBulk d + 1
  | (_, d) => uptoBulk d + 1
 end
def uptoSmall : (H : Type) → List (DataW H) → Bool := fun _ ds => decide (uptoBulkAll ds ≤ 1048576)
def OpenSpec.upto (s : _root_.Go.ChangeSpec) : _root_.Go.OpenSpec := { _root_.Go.OpenSpec.ofChange s with cond := some uptoSmall }

/-- 'letterboxlaw10.AddrParts', WHERE WHAT IT READS IS OF BULK AT MOST 1048576: true; the input reads as it did. -/
def addrPartsUptoRow : OpenClaim := { program := "ytcjepgofcojeoaa", sum := "3122d61e5658e6e31d6a7cd157b8a88582485e2edd260d6de8b614fc2dff7cab", func := "letterbox/letterboxlaw10.AddrParts", spec := "addrParts", inPlace := ["internal/bytealg.IndexByteString", "internal/abi.NoEscape", "internal/bytealg.MakeNoZero"], recurses := true, apart := false, narrowed := true }
def AddrPartsUptoSaid : Prop := addrPartsUptoRow.holds Try.pinned (OpenSpec.upto addrPartsSpec)

/-- 'letterboxlaw10.AddrBroken', WHERE WHAT IT READS IS OF BULK AT MOST 1048576: true; the input reads as it did. -/
def addrBrokenUptoRow : OpenClaim := { program := "ytcjepgofcojeoaa", sum := "3122d61e5658e6e31d6a7cd157b8a88582485e2edd260d6de8b614fc2dff7cab", func := "letterbox/letterboxlaw10.AddrBroken", spec := "addrBroken", inPlace := ["internal/bytealg.IndexByteString", "internal/abi.NoEscape", "internal/bytealg.MakeNoZero"], recurses := true, apart := false, narrowed := true }
def AddrBrokenUptoSaid : Prop := addrBrokenUptoRow.holds Try.pinned (OpenSpec.upto addrBrokenSpec)

/-- 'letterboxlaw10.AddrTexts', WHERE WHAT IT READS IS OF BULK AT MOST 1048576: true; the input reads as it did. -/
def addrTextsUptoRow : OpenClaim := { program := "ytcjepgofcojeoaa", sum := "3122d61e5658e6e31d6a7cd157b8a88582485e2edd260d6de8b614fc2dff7cab", func := "letterbox/letterboxlaw10.AddrTexts", spec := "addrTexts", inPlace := ["internal/bytealg.IndexByteString", "internal/abi.NoEscape", "internal/bytealg.MakeNoZero"], recurses := true, apart := false, narrowed := true }
def AddrTextsUptoSaid : Prop := addrTextsUptoRow.holds Try.pinned (OpenSpec.upto addrTextsSpec)

/-- 'letterboxlaw10.AddrBack', WHERE WHAT IT READS IS OF BULK AT MOST 1048576: true; the input reads as it did. -/
def addrBackUptoRow : OpenClaim := { program := "ytcjepgofcojeoaa", sum := "3122d61e5658e6e31d6a7cd157b8a88582485e2edd260d6de8b614fc2dff7cab", func := "letterbox/letterboxlaw10.AddrBack", spec := "addrBack", inPlace := ["internal/bytealg.IndexByteString", "internal/abi.NoEscape", "internal/bytealg.MakeNoZero"], recurses := true, apart := false, narrowed := true }
def AddrBackUptoSaid : Prop := addrBackUptoRow.holds Try.pinned (OpenSpec.upto addrBackSpec)

end Rows
end Go.Proofs.Ytcjepgofcojeoaa
