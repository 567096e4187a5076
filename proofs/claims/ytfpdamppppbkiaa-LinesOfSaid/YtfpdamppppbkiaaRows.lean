/-
  No cell of these rows narrows 'for every input' (looked for: loops, veiled, ifaces, maps, wideKeys, modest, calm, conditions, laid).
  DERIVED. THE GIVEN ROWS OF THIS SEAT. 4 by the template 'for every input the law returns true; each argument reads behind the call as it read before'; 0 by the template 'total and deterministic' (their statements: YtfpdamppppbkiaaTotals.lean).
  GIVEN WITH THE SEED: the statements are not yours to turn. If you find one false, say at which input.
  Laid BY PROGRAM, IN A SANDBOX (cutbox-rows.mjs): the forced cells as the released guide's own fill.sh prints them over the translation b079e555fd7abd2d… (all of the seat's roots in one cut). By AI agents, Wed Nov 11 2026. No macro, syntax, notation, axiom, sorry.
-/
import Derived.Test.YtfpdamppppbkiaaChecked
import GoSem.Claim
import GoSem.ClaimJoined
import GoSem.ClaimMapViews
import Derived.JoinedTies
import Derived.KernelRfl
namespace Go.Proofs.Ytfpdamppppbkiaa
/- THE CELL 'sum', in the pinned program and in every row, IS THE sha256 OF THE DUMP (.gsa) THAT YtfpdamppppbkiaaProg.lean LOADS. Nothing in Lean hashes anything: it is a label: what it is worth is what the hold of that sum in a sandbox is worth. -/
noncomputable def Try.pinned : Pinned := { name := "ytfpdamppppbkiaa", sum := "b079e555fd7abd2d182ad5d826d1c7270db1f64f0cde6788e822deb8f5331224", checked := Try.checked }
namespace Rows
def none {H : Type} : Left H := { results := [], args := [] }

/-- 'letterboxlaw05.LinesAll': WHATEVER THE INPUT: true; the input reads as it did. -/
def linesAllSpec : ChangeSpec := { name := "linesAll", fn := fun _ => fun
  | [d] => { results := [.lit (.bool true)], args := [d] }
  | _ => none }
def linesAllRow : OpenClaim := { program := "ytfpdamppppbkiaa", sum := "b079e555fd7abd2d182ad5d826d1c7270db1f64f0cde6788e822deb8f5331224", func := "letterbox/letterboxlaw05.LinesAll", spec := "linesAll", unfollowed := true, recurses := true, apart := false }
def LinesAllSaid : Prop := linesAllRow.holds Try.pinned (OpenSpec.ofChange linesAllSpec)

/-- ITS FALSE NEIGHBOUR: 'it returns false'. Refute it at one input. -/
def linesAllWrong : ChangeSpec := { name := "linesAll", fn := fun _ => fun
  | [d] => { results := [.lit (.bool false)], args := [d] }
  | _ => none }
def LinesAllWrongFalsely : Prop := linesAllRow.holds Try.pinned (OpenSpec.ofChange linesAllWrong)

/-- 'letterboxlaw05.LinesJoined': WHATEVER THE INPUT: true; the input reads as it did. -/
def linesJoinedSpec : ChangeSpec := { name := "linesJoined", fn := fun _ => fun
  | [d1, d2, d3] => { results := [.lit (.bool true)], args := [d1, d2, d3] }
  | _ => none }
def linesJoinedRow : OpenClaim := { program := "ytfpdamppppbkiaa", sum := "b079e555fd7abd2d182ad5d826d1c7270db1f64f0cde6788e822deb8f5331224", func := "letterbox/letterboxlaw05.LinesJoined", spec := "linesJoined", unfollowed := true, recurses := true, apart := false }
def LinesJoinedSaid : Prop := linesJoinedRow.holds Try.pinned (OpenSpec.ofChange linesJoinedSpec)

/-- ITS FALSE NEIGHBOUR: 'it returns false'. Refute it at one input. -/
def linesJoinedWrong : ChangeSpec := { name := "linesJoined", fn := fun _ => fun
  | [d1, d2, d3] => { results := [.lit (.bool false)], args := [d1, d2, d3] }
  | _ => none }
def LinesJoinedWrongFalsely : Prop := linesJoinedRow.holds Try.pinned (OpenSpec.ofChange linesJoinedWrong)

/-- 'letterboxlaw05.LinesOf': WHATEVER THE INPUT: true; the input reads as it did. -/
def linesOfSpec : ChangeSpec := { name := "linesOf", fn := fun _ => fun
  | [d1, d2, d3] => { results := [.lit (.bool true)], args := [d1, d2, d3] }
  | _ => none }
def linesOfRow : OpenClaim := { program := "ytfpdamppppbkiaa", sum := "b079e555fd7abd2d182ad5d826d1c7270db1f64f0cde6788e822deb8f5331224", func := "letterbox/letterboxlaw05.LinesOf", spec := "linesOf", unfollowed := true, recurses := true, apart := false }
def LinesOfSaid : Prop := linesOfRow.holds Try.pinned (OpenSpec.ofChange linesOfSpec)

/-- ITS FALSE NEIGHBOUR: 'it returns false'. Refute it at one input. -/
def linesOfWrong : ChangeSpec := { name := "linesOf", fn := fun _ => fun
  | [d1, d2, d3] => { results := [.lit (.bool false)], args := [d1, d2, d3] }
  | _ => none }
def LinesOfWrongFalsely : Prop := linesOfRow.holds Try.pinned (OpenSpec.ofChange linesOfWrong)

/-- 'letterboxlaw05.LinesWithin': WHATEVER THE INPUT: true; the input reads as it did. -/
def linesWithinSpec : ChangeSpec := { name := "linesWithin", fn := fun _ => fun
  | [d1, d2, d3] => { results := [.lit (.bool true)], args := [d1, d2, d3] }
  | _ => none }
def linesWithinRow : OpenClaim := { program := "ytfpdamppppbkiaa", sum := "b079e555fd7abd2d182ad5d826d1c7270db1f64f0cde6788e822deb8f5331224", func := "letterbox/letterboxlaw05.LinesWithin", spec := "linesWithin", unfollowed := true, recurses := true, apart := false }
def LinesWithinSaid : Prop := linesWithinRow.holds Try.pinned (OpenSpec.ofChange linesWithinSpec)

/-- ITS FALSE NEIGHBOUR: 'it returns false'. Refute it at one input. -/
def linesWithinWrong : ChangeSpec := { name := "linesWithin", fn := fun _ => fun
  | [d1, d2, d3] => { results := [.lit (.bool false)], args := [d1, d2, d3] }
  | _ => none }
def LinesWithinWrongFalsely : Prop := linesWithinRow.holds Try.pinned (OpenSpec.ofChange linesWithinWrong)

/- THE SECOND FORM. 'bulk': how many values and letters a reading holds, each counted each time it is reached (what is shared counts as often as it is met; a slice's spare places count too). A statement '..UptoSaid' is the law's where the arguments, and the package variables that the reading takes, are together of bulk at most 1048576: NARROWER than '..Said'. Prove '..Said' where nothing that the law and all that it calls make is longer than what came in: it says more and counts as full. Else prove '..UptoSaid'. A law counts once. -/
mutual
def uptoBulk {H : Type} : DataW H → Nat
  | .lit (.string bytes) => bytes.length + 1
  | .lit _ => 1
  | .nil => 1
  | .ptr d => uptoBulk d + 1
  | .slice elems spare => uptoBulkAll elems + uptoBulkAll spare + 1
  | .agg parts => uptoBulkAll parts + 1
  | .iface _ d => uptoBulk d + 1
  | .map entries => uptoBulkEntries entries + 1
  | .held _ => 1
def uptoBulkAll {H : Type} : List (DataW H) → Nat
  | [] => 0
  | d :: r => uptoBulk d + uptoBulkAll r
def uptoBulkEntries {H : Type} : List (Lit × DataW H) → Nat
  | [] => 0
  | x :: r => uptoBulkEntry x + uptoBulkEntries r
def uptoBulkEntry {H : Type} : Lit × DataW H → Nat
  | (.string bytes, d) => bytes.length + uptoBulk d + 1
  | (_, d) => uptoBulk d + 1
 end
def uptoSmall : (H : Type) → List (DataW H) → Bool := fun _ ds => decide (uptoBulkAll ds ≤ 1048576)
def OpenSpec.upto (s : _root_.Go.ChangeSpec) : _root_.Go.OpenSpec := { _root_.Go.OpenSpec.ofChange s with cond := some uptoSmall }

/-- 'letterboxlaw05.LinesAll', WHERE WHAT IT READS IS OF BULK AT MOST 1048576: true; the input reads as it did. -/
def linesAllUptoRow : OpenClaim := { program := "ytfpdamppppbkiaa", sum := "b079e555fd7abd2d182ad5d826d1c7270db1f64f0cde6788e822deb8f5331224", func := "letterbox/letterboxlaw05.LinesAll", spec := "linesAll", unfollowed := true, recurses := true, apart := false, narrowed := true }
def LinesAllUptoSaid : Prop := linesAllUptoRow.holds Try.pinned (OpenSpec.upto linesAllSpec)

/-- 'letterboxlaw05.LinesJoined', WHERE WHAT IT READS IS OF BULK AT MOST 1048576: true; the input reads as it did. -/
def linesJoinedUptoRow : OpenClaim := { program := "ytfpdamppppbkiaa", sum := "b079e555fd7abd2d182ad5d826d1c7270db1f64f0cde6788e822deb8f5331224", func := "letterbox/letterboxlaw05.LinesJoined", spec := "linesJoined", unfollowed := true, recurses := true, apart := false, narrowed := true }
def LinesJoinedUptoSaid : Prop := linesJoinedUptoRow.holds Try.pinned (OpenSpec.upto linesJoinedSpec)

/-- 'letterboxlaw05.LinesOf', WHERE WHAT IT READS IS OF BULK AT MOST 1048576: true; the input reads as it did. -/
def linesOfUptoRow : OpenClaim := { program := "ytfpdamppppbkiaa", sum := "b079e555fd7abd2d182ad5d826d1c7270db1f64f0cde6788e822deb8f5331224", func := "letterbox/letterboxlaw05.LinesOf", spec := "linesOf", unfollowed := true, recurses := true, apart := false, narrowed := true }
def LinesOfUptoSaid : Prop := linesOfUptoRow.holds Try.pinned (OpenSpec.upto linesOfSpec)

/-- 'letterboxlaw05.LinesWithin', WHERE WHAT IT READS IS OF BULK AT MOST 1048576: true; the input reads as it did. -/
def linesWithinUptoRow : OpenClaim := { program := "ytfpdamppppbkiaa", sum := "b079e555fd7abd2d182ad5d826d1c7270db1f64f0cde6788e822deb8f5331224", func := "letterbox/letterboxlaw05.LinesWithin", spec := "linesWithin", unfollowed := true, recurses := true, apart := false, narrowed := true }
def LinesWithinUptoSaid : Prop := linesWithinUptoRow.holds Try.pinned (OpenSpec.upto linesWithinSpec)

end Rows
end Go.Proofs.Ytfpdamppppbkiaa
