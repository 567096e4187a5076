/-
  No cell of these rows narrows 'for every input' (looked for: loops, veiled, ifaces, maps, wideKeys, modest, calm, conditions, laid).
  DERIVED. THE GIVEN ROWS OF THIS SEAT. 2 by the template 'for every input the law returns true; each argument reads behind the call as it read before'; 0 by the template 'total and deterministic' (their statements: YtckmfmfhhojmfaaTotals.lean).
  GIVEN WITH THE SEED: the statements are not yours to turn. If you find one false, say at which input.
  Laid BY PROGRAM, IN A SANDBOX (cutbox-rows.mjs): the forced cells as the released guide's own fill.sh prints them over the translation 9996a322889a6a98… (all of the seat's roots in one cut). By AI agents, Wed Nov 11 2026. No macro, syntax, notation, axiom, sorry.
-/
import Derived.Test.YtckmfmfhhojmfaaChecked
import GoSem.Claim
import GoSem.ClaimJoined
import GoSem.ClaimMapViews
import Derived.JoinedTies
import Derived.KernelRfl
namespace Go.Proofs.Ytckmfmfhhojmfaa
/- THE CELL 'sum', in the pinned program and in every row, IS THE sha256 OF THE DUMP (.gsa) THAT YtckmfmfhhojmfaaProg.lean LOADS. Nothing in Lean hashes anything: it is a label: what it is worth is what the hold of that sum in a sandbox is worth. -/
noncomputable def Try.pinned : Pinned := { name := "ytckmfmfhhojmfaa", sum := "9996a322889a6a9888f1e768eee04e76f0184e5f662febface937e184317764d", checked := Try.checked }
namespace Rows
def none {H : Type} : Left H := { results := [], args := [] }

/-- 'letterboxlaw06.HeaderOrder': WHATEVER THE INPUT: true; the input reads as it did. -/
def headerOrderSpec : ChangeSpec := { name := "headerOrder", fn := fun _ => fun
  | [d1, d2] => { results := [.lit (.bool true)], args := [d1, d2] }
  | _ => none }
def headerOrderRow : OpenClaim := { program := "ytckmfmfhhojmfaa", sum := "9996a322889a6a9888f1e768eee04e76f0184e5f662febface937e184317764d", func := "letterbox/letterboxlaw06.HeaderOrder", spec := "headerOrder", inPlace := ["internal/bytealg.IndexByteString", "internal/abi.NoEscape"], unfollowed := true, recurses := true, apart := false }
def HeaderOrderSaid : Prop := headerOrderRow.holds Try.pinned (OpenSpec.ofChange headerOrderSpec)

/-- ITS FALSE NEIGHBOUR: 'it returns false'. Refute it at one input. -/
def headerOrderWrong : ChangeSpec := { name := "headerOrder", fn := fun _ => fun
  | [d1, d2] => { results := [.lit (.bool false)], args := [d1, d2] }
  | _ => none }
def HeaderOrderWrongFalsely : Prop := headerOrderRow.holds Try.pinned (OpenSpec.ofChange headerOrderWrong)

/-- 'letterboxlaw06.HeaderFolds': WHATEVER THE INPUT: true; the input reads as it did. -/
def headerFoldsSpec : ChangeSpec := { name := "headerFolds", fn := fun _ => fun
  | [d1, d2] => { results := [.lit (.bool true)], args := [d1, d2] }
  | _ => none }
def headerFoldsRow : OpenClaim := { program := "ytckmfmfhhojmfaa", sum := "9996a322889a6a9888f1e768eee04e76f0184e5f662febface937e184317764d", func := "letterbox/letterboxlaw06.HeaderFolds", spec := "headerFolds", inPlace := ["internal/bytealg.IndexByteString", "internal/abi.NoEscape"], unfollowed := true, recurses := true, apart := false }
def HeaderFoldsSaid : Prop := headerFoldsRow.holds Try.pinned (OpenSpec.ofChange headerFoldsSpec)

/-- ITS FALSE NEIGHBOUR: 'it returns false'. Refute it at one input. -/
def headerFoldsWrong : ChangeSpec := { name := "headerFolds", fn := fun _ => fun
  | [d1, d2] => { results := [.lit (.bool false)], args := [d1, d2] }
  | _ => none }
def HeaderFoldsWrongFalsely : Prop := headerFoldsRow.holds Try.pinned (OpenSpec.ofChange headerFoldsWrong)

/- THE SECOND FORM. 'bulk': how many values and letters a reading holds, each counted each time it is reached (what is shared counts as often as it is met; a slice's spare places count too). A statement '..UptoSaid' is the law's where the arguments, and the package variables that the reading takes, are together of bulk at most 1048576: NARROWER than '..Said'. Prove '..Said' where nothing that the law and all that it calls make is longer than what came in: it says more and counts as full. Else prove '..UptoSaid'. A law counts once. -/
mutual
def uptoBulk {H : Type} : DataW H → Nat
  | .lit (.string bytes) => bytes.length + 1
  | .lit _ => 1
  | .nil => 1
  | .ptr d => uptoBulk d + 1
  | .slice elems spare => uptoBulkAll elems + uptoBulkAll spare + 1
  | .agg parts => uptoBulkAll parts + 1
  | .iface _ d => uptoBulk d + 1
  | .map entries => uptoBulkEntries entries + 1
  | .held _ => 1
def uptoBulkAll {H : Type} : List (DataW H) → Nat
  | [] => 0
  | d :: r => uptoBulk d + uptoBulkAll r
def uptoBulkEntries {H : Type} : List (Lit × DataW H) → Nat
  | [] => 0
  | x :: r => uptoBulkEntry x + uptoBulkEntries r
def uptoBulkEntry {H : Type} : Lit × DataW H → Nat
  | (.string bytes, d) => bytes.length + uptoBulk d + 1
  | (_, d) => uptoBulk d + 1
 end
def uptoSmall : (H : Type) → List (DataW H) → Bool := fun _ ds => decide (uptoBulkAll ds ≤ 1048576)
def OpenSpec.upto (s : _root_.Go.ChangeSpec) : _root_.Go.OpenSpec := { _root_.Go.OpenSpec.ofChange s with cond := some uptoSmall }

/-- 'letterboxlaw06.HeaderOrder', WHERE WHAT IT READS IS OF BULK AT MOST 1048576: true; the input reads as it did. -/
def headerOrderUptoRow : OpenClaim := { program := "ytckmfmfhhojmfaa", sum := "9996a322889a6a9888f1e768eee04e76f0184e5f662febface937e184317764d", func := "letterbox/letterboxlaw06.HeaderOrder", spec := "headerOrder", inPlace := ["internal/bytealg.IndexByteString", "internal/abi.NoEscape"], unfollowed := true, recurses := true, apart := false, narrowed := true }
def HeaderOrderUptoSaid : Prop := headerOrderUptoRow.holds Try.pinned (OpenSpec.upto headerOrderSpec)

/-- 'letterboxlaw06.HeaderFolds', WHERE WHAT IT READS IS OF BULK AT MOST 1048576: true; the input reads as it did. -/
def headerFoldsUptoRow : OpenClaim := { program := "ytckmfmfhhojmfaa", sum := "9996a322889a6a9888f1e768eee04e76f0184e5f662febface937e184317764d", func := "letterbox/letterboxlaw06.HeaderFolds", spec := "headerFolds", inPlace := ["internal/bytealg.IndexByteString", "internal/abi.NoEscape"], unfollowed := true, recurses := true, apart := false, narrowed := true }
def HeaderFoldsUptoSaid : Prop := headerFoldsUptoRow.holds Try.pinned (OpenSpec.upto headerFoldsSpec)

end Rows
end Go.Proofs.Ytckmfmfhhojmfaa
