/-
  No cell of these rows narrows 'for every input' (looked for: loops, veiled, ifaces, maps, wideKeys, modest, calm, conditions, laid).
  DERIVED. THE GIVEN ROWS OF THIS SEAT. 4 by the template 'for every input the law returns true; each argument reads behind the call as it read before'; 0 by the template 'total and deterministic' (their statements: YtimnfkmjdnmdeaaTotals.lean).
  GIVEN WITH THE SEED: the statements are not yours to turn. If you find one false, say at which input.
  Laid BY PROGRAM, IN A SANDBOX (cutbox-rows.mjs): the forced cells as the released guide's own fill.sh prints them over the translation e4ab529737359470… (all of the seat's roots in one cut). By AI agents, Wed Nov 11 2026. No macro, syntax, notation, axiom, sorry.
-/
import Derived.Test.YtimnfkmjdnmdeaaChecked
import GoSem.Claim
import GoSem.ClaimJoined
import GoSem.ClaimMapViews
import Derived.JoinedTies
import Derived.KernelRfl
namespace Go.Proofs.Ytimnfkmjdnmdeaa
/- THE CELL 'sum', in the pinned program and in every row, IS THE sha256 OF THE DUMP (.gsa) THAT YtimnfkmjdnmdeaaProg.lean LOADS. Nothing in Lean hashes anything: it is a label: what it is worth is what the hold of that sum in a sandbox is worth. -/
noncomputable def Try.pinned : Pinned := { name := "ytimnfkmjdnmdeaa", sum := "e4ab529737359470bc0f15c914889c403e11622c84045a80244fbcf45366a4cc", checked := Try.checked }
namespace Rows
def none {H : Type} : Left H := { results := [], args := [] }

/-- 'letterboxlaw21.SeqsetParses': WHATEVER THE INPUT: true; the input reads as it did. -/
def seqsetParsesSpec : ChangeSpec := { name := "seqsetParses", fn := fun _ => fun
  | [d1, d2, d3, d4] => { results := [.lit (.bool true)], args := [d1, d2, d3, d4] }
  | _ => none }
def seqsetParsesRow : OpenClaim := { program := "ytimnfkmjdnmdeaa", sum := "e4ab529737359470bc0f15c914889c403e11622c84045a80244fbcf45366a4cc", func := "letterbox/letterboxlaw21.SeqsetParses", spec := "seqsetParses", inPlace := ["internal/bytealg.IndexByteString", "internal/bytealg.IndexString", "internal/abi.NoEscape", "internal/bytealg.MakeNoZero"], unfollowed := true, recurses := true, named := ["internal/bytealg.MaxLen"], apart := false }
def SeqsetParsesSaid : Prop := seqsetParsesRow.holds Try.pinned (OpenSpec.ofChange seqsetParsesSpec)

/-- ITS FALSE NEIGHBOUR: 'it returns false'. Refute it at one input. -/
def seqsetParsesWrong : ChangeSpec := { name := "seqsetParses", fn := fun _ => fun
  | [d1, d2, d3, d4] => { results := [.lit (.bool false)], args := [d1, d2, d3, d4] }
  | _ => none }
def SeqsetParsesWrongFalsely : Prop := seqsetParsesRow.holds Try.pinned (OpenSpec.ofChange seqsetParsesWrong)

/-- 'letterboxlaw21.SeqsetRow': WHATEVER THE INPUT: true; the input reads as it did. -/
def seqsetRowSpec : ChangeSpec := { name := "seqsetRow", fn := fun _ => fun
  | [d] => { results := [.lit (.bool true)], args := [d] }
  | _ => none }
def seqsetRowRow : OpenClaim := { program := "ytimnfkmjdnmdeaa", sum := "e4ab529737359470bc0f15c914889c403e11622c84045a80244fbcf45366a4cc", func := "letterbox/letterboxlaw21.SeqsetRow", spec := "seqsetRow", inPlace := ["internal/bytealg.IndexByteString", "internal/bytealg.IndexString", "internal/abi.NoEscape", "internal/bytealg.MakeNoZero"], unfollowed := true, recurses := true, named := ["internal/bytealg.MaxLen"], apart := false }
def SeqsetRowSaid : Prop := seqsetRowRow.holds Try.pinned (OpenSpec.ofChange seqsetRowSpec)

/-- ITS FALSE NEIGHBOUR: 'it returns false'. Refute it at one input. -/
def seqsetRowWrong : ChangeSpec := { name := "seqsetRow", fn := fun _ => fun
  | [d] => { results := [.lit (.bool false)], args := [d] }
  | _ => none }
def SeqsetRowWrongFalsely : Prop := seqsetRowRow.holds Try.pinned (OpenSpec.ofChange seqsetRowWrong)

/-- 'letterboxlaw21.SeqsetStar': WHATEVER THE INPUT: true; the input reads as it did. -/
def seqsetStarSpec : ChangeSpec := { name := "seqsetStar", fn := fun _ => fun
  | [d1, d2] => { results := [.lit (.bool true)], args := [d1, d2] }
  | _ => none }
def seqsetStarRow : OpenClaim := { program := "ytimnfkmjdnmdeaa", sum := "e4ab529737359470bc0f15c914889c403e11622c84045a80244fbcf45366a4cc", func := "letterbox/letterboxlaw21.SeqsetStar", spec := "seqsetStar", inPlace := ["internal/bytealg.IndexByteString", "internal/bytealg.IndexString", "internal/abi.NoEscape", "internal/bytealg.MakeNoZero"], unfollowed := true, recurses := true, named := ["internal/bytealg.MaxLen"], apart := false }
def SeqsetStarSaid : Prop := seqsetStarRow.holds Try.pinned (OpenSpec.ofChange seqsetStarSpec)

/-- ITS FALSE NEIGHBOUR: 'it returns false'. Refute it at one input. -/
def seqsetStarWrong : ChangeSpec := { name := "seqsetStar", fn := fun _ => fun
  | [d1, d2] => { results := [.lit (.bool false)], args := [d1, d2] }
  | _ => none }
def SeqsetStarWrongFalsely : Prop := seqsetStarRow.holds Try.pinned (OpenSpec.ofChange seqsetStarWrong)

/-- 'letterboxlaw21.SeqsetMany': WHATEVER THE INPUT: true; the input reads as it did. -/
def seqsetManySpec : ChangeSpec := { name := "seqsetMany", fn := fun _ => fun
  | [d1, d2] => { results := [.lit (.bool true)], args := [d1, d2] }
  | _ => none }
def seqsetManyRow : OpenClaim := { program := "ytimnfkmjdnmdeaa", sum := "e4ab529737359470bc0f15c914889c403e11622c84045a80244fbcf45366a4cc", func := "letterbox/letterboxlaw21.SeqsetMany", spec := "seqsetMany", inPlace := ["internal/bytealg.IndexByteString", "internal/bytealg.IndexString", "internal/abi.NoEscape", "internal/bytealg.MakeNoZero"], unfollowed := true, recurses := true, named := ["internal/bytealg.MaxLen"], apart := false }
def SeqsetManySaid : Prop := seqsetManyRow.holds Try.pinned (OpenSpec.ofChange seqsetManySpec)

/-- ITS FALSE NEIGHBOUR: 'it returns false'. Refute it at one input. -/
def seqsetManyWrong : ChangeSpec := { name := "seqsetMany", fn := fun _ => fun
  | [d1, d2] => { results := [.lit (.bool false)], args := [d1, d2] }
  | _ => none }
def SeqsetManyWrongFalsely : Prop := seqsetManyRow.holds Try.pinned (OpenSpec.ofChange seqsetManyWrong)

/- THE SECOND FORM. 'bulk': how many values and letters a reading holds, each counted each time it is reached (what is shared counts as often as it is met; a slice's spare places count too). A statement '..UptoSaid' is the law's where the arguments, and the package variables that the reading takes, are together of bulk at most 1048576: NARROWER than '..Said'. Prove '..Said' where nothing that the law and all that it calls make is longer than what came in: it says more and counts as full. Else prove '..UptoSaid'. A law counts once. -/
mutual
def uptoBulk {H : Type} : DataW H → Nat
  | .lit (.string bytes) => bytes.length + 1
  | .lit _ => 1
  | .nil => 1
  | .ptr d => uptoBulk d + 1
  | .slice elems spare => uptoBulkAll elems + uptoBulkAll spare + 1
  | .agg parts => uptoBulkAll parts + 1
  | .iface _ d => uptoBulk d + 1
  | .map entries => uptoBulkEntries entries + 1
  | .held _ => 1
def uptoBulkAll {H : Type} : List (DataW H) → Nat
  | [] => 0
  | d :: r => uptoBulk d + uptoBulkAll r
def uptoBulkEntries {H : Type} : List (Lit × DataW H) → Nat
  | [] => 0
  | x :: r => uptoBulkEntry x + uptoBulkEntries r
def uptoBulkEntry {H : Type} : Lit × DataW H → Nat
  | (.string bytes, d) => bytes.length + uptoBulk d + 1
  | (_, d) => uptoBulk d + 1
 end
def uptoSmall : (H : Type) → List (DataW H) → Bool := fun _ ds => decide (uptoBulkAll ds ≤ 1048576)
def OpenSpec.upto (s : _root_.Go.ChangeSpec) : _root_.Go.OpenSpec := { _root_.Go.OpenSpec.ofChange s with cond := some uptoSmall }

/-- 'letterboxlaw21.SeqsetParses', WHERE WHAT IT READS IS OF BULK AT MOST 1048576: true; the input reads as it did. -/
def seqsetParsesUptoRow : OpenClaim := { program := "ytimnfkmjdnmdeaa", sum := "e4ab529737359470bc0f15c914889c403e11622c84045a80244fbcf45366a4cc", func := "letterbox/letterboxlaw21.SeqsetParses", spec := "seqsetParses", inPlace := ["internal/bytealg.IndexByteString", "internal/bytealg.IndexString", "internal/abi.NoEscape", "internal/bytealg.MakeNoZero"], unfollowed := true, recurses := true, named := ["internal/bytealg.MaxLen"], apart := false, narrowed := true }
def SeqsetParsesUptoSaid : Prop := seqsetParsesUptoRow.holds Try.pinned (OpenSpec.upto seqsetParsesSpec)

/-- 'letterboxlaw21.SeqsetRow', WHERE WHAT IT READS IS OF BULK AT MOST 1048576: true; the input reads as it did. -/
def seqsetRowUptoRow : OpenClaim := { program := "ytimnfkmjdnmdeaa", sum := "e4ab529737359470bc0f15c914889c403e11622c84045a80244fbcf45366a4cc", func := "letterbox/letterboxlaw21.SeqsetRow", spec := "seqsetRow", inPlace := ["internal/bytealg.IndexByteString", "internal/bytealg.IndexString", "internal/abi.NoEscape", "internal/bytealg.MakeNoZero"], unfollowed := true, recurses := true, named := ["internal/bytealg.MaxLen"], apart := false, narrowed := true }
def SeqsetRowUptoSaid : Prop := seqsetRowUptoRow.holds Try.pinned (OpenSpec.upto seqsetRowSpec)

/-- 'letterboxlaw21.SeqsetStar', WHERE WHAT IT READS IS OF BULK AT MOST 1048576: true; the input reads as it did. -/
def seqsetStarUptoRow : OpenClaim := { program := "ytimnfkmjdnmdeaa", sum := "e4ab529737359470bc0f15c914889c403e11622c84045a80244fbcf45366a4cc", func := "letterbox/letterboxlaw21.SeqsetStar", spec := "seqsetStar", inPlace := ["internal/bytealg.IndexByteString", "internal/bytealg.IndexString", "internal/abi.NoEscape", "internal/bytealg.MakeNoZero"], unfollowed := true, recurses := true, named := ["internal/bytealg.MaxLen"], apart := false, narrowed := true }
def SeqsetStarUptoSaid : Prop := seqsetStarUptoRow.holds Try.pinned (OpenSpec.upto seqsetStarSpec)

/-- 'letterboxlaw21.SeqsetMany', WHERE WHAT IT READS IS OF BULK AT MOST 1048576: true; the input reads as it did. -/
def seqsetManyUptoRow : OpenClaim := { program := "ytimnfkmjdnmdeaa", sum := "e4ab529737359470bc0f15c914889c403e11622c84045a80244fbcf45366a4cc", func := "letterbox/letterboxlaw21.SeqsetMany", spec := "seqsetMany", inPlace := ["internal/bytealg.IndexByteString", "internal/bytealg.IndexString", "internal/abi.NoEscape", "internal/bytealg.MakeNoZero"], unfollowed := true, recurses := true, named := ["internal/bytealg.MaxLen"], apart := false, narrowed := true }
def SeqsetManyUptoSaid : Prop := seqsetManyUptoRow.holds Try.pinned (OpenSpec.upto seqsetManySpec)

end Rows
end Go.Proofs.Ytimnfkmjdnmdeaa
