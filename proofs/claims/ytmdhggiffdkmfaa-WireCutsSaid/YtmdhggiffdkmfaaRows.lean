/-
  No cell of these rows narrows 'for every input' (looked for: loops, veiled, ifaces, maps, wideKeys, modest, calm, conditions, laid).
  DERIVED. THE GIVEN ROWS OF THIS SEAT. 4 by the template 'for every input the law returns true; each argument reads behind the call as it read before'; 0 by the template 'total and deterministic' (their statements: YtmdhggiffdkmfaaTotals.lean).
  GIVEN WITH THE SEED: the statements are not yours to turn. If you find one false, say at which input.
  Laid BY PROGRAM, IN A SANDBOX (cutbox-rows.mjs): the forced cells as the released guide's own fill.sh prints them over the translation 52dfc572f27402cb… (all of the seat's roots in one cut). By AI agents, Wed Nov 11 2026. No macro, syntax, notation, axiom, sorry.
-/
import Derived.Test.YtmdhggiffdkmfaaChecked
import GoSem.Claim
import GoSem.ClaimJoined
import GoSem.ClaimMapViews
import Derived.JoinedTies
import Derived.KernelRfl
namespace Go.Proofs.Ytmdhggiffdkmfaa
/- THE CELL 'sum', in the pinned program and in every row, IS THE sha256 OF THE DUMP (.gsa) THAT YtmdhggiffdkmfaaProg.lean LOADS. Nothing in Lean hashes anything: it is a label: what it is worth is what the hold of that sum in a sandbox is worth. -/
noncomputable def Try.pinned : Pinned := { name := "ytmdhggiffdkmfaa", sum := "52dfc572f27402cb39a6547b63d8f2c27757b56634958339f148c7d34edb1e4c", checked := Try.checked }
namespace Rows
def none {H : Type} : Left H := { results := [], args := [] }

/-- 'letterboxlaw18.WireCuts': WHATEVER THE INPUT: true; the input reads as it did. -/
def wireCutsSpec : ChangeSpec := { name := "wireCuts", fn := fun _ => fun
  | [d1, d2] => { results := [.lit (.bool true)], args := [d1, d2] }
  | _ => none }
def wireCutsRow : OpenClaim := { program := "ytmdhggiffdkmfaa", sum := "52dfc572f27402cb39a6547b63d8f2c27757b56634958339f148c7d34edb1e4c", func := "letterbox/letterboxlaw18.WireCuts", spec := "wireCuts", inPlace := ["internal/bytealg.IndexByteString"], unfollowed := true, recurses := true, apart := false }
def WireCutsSaid : Prop := wireCutsRow.holds Try.pinned (OpenSpec.ofChange wireCutsSpec)

/-- ITS FALSE NEIGHBOUR: 'it returns false'. Refute it at one input. -/
def wireCutsWrong : ChangeSpec := { name := "wireCuts", fn := fun _ => fun
  | [d1, d2] => { results := [.lit (.bool false)], args := [d1, d2] }
  | _ => none }
def WireCutsWrongFalsely : Prop := wireCutsRow.holds Try.pinned (OpenSpec.ofChange wireCutsWrong)

/-- 'letterboxlaw18.WireLeft': WHATEVER THE INPUT: true; the input reads as it did. -/
def wireLeftSpec : ChangeSpec := { name := "wireLeft", fn := fun _ => fun
  | [d1, d2] => { results := [.lit (.bool true)], args := [d1, d2] }
  | _ => none }
def wireLeftRow : OpenClaim := { program := "ytmdhggiffdkmfaa", sum := "52dfc572f27402cb39a6547b63d8f2c27757b56634958339f148c7d34edb1e4c", func := "letterbox/letterboxlaw18.WireLeft", spec := "wireLeft", inPlace := ["internal/bytealg.IndexByteString"], unfollowed := true, recurses := true, apart := false }
def WireLeftSaid : Prop := wireLeftRow.holds Try.pinned (OpenSpec.ofChange wireLeftSpec)

/-- ITS FALSE NEIGHBOUR: 'it returns false'. Refute it at one input. -/
def wireLeftWrong : ChangeSpec := { name := "wireLeft", fn := fun _ => fun
  | [d1, d2] => { results := [.lit (.bool false)], args := [d1, d2] }
  | _ => none }
def WireLeftWrongFalsely : Prop := wireLeftRow.holds Try.pinned (OpenSpec.ofChange wireLeftWrong)

/-- 'letterboxlaw18.WireStrings': WHATEVER THE INPUT: true; the input reads as it did. -/
def wireStringsSpec : ChangeSpec := { name := "wireStrings", fn := fun _ => fun
  | [d1, d2, d3] => { results := [.lit (.bool true)], args := [d1, d2, d3] }
  | _ => none }
def wireStringsRow : OpenClaim := { program := "ytmdhggiffdkmfaa", sum := "52dfc572f27402cb39a6547b63d8f2c27757b56634958339f148c7d34edb1e4c", func := "letterbox/letterboxlaw18.WireStrings", spec := "wireStrings", inPlace := ["internal/bytealg.IndexByteString"], unfollowed := true, recurses := true, apart := false }
def WireStringsSaid : Prop := wireStringsRow.holds Try.pinned (OpenSpec.ofChange wireStringsSpec)

/-- ITS FALSE NEIGHBOUR: 'it returns false'. Refute it at one input. -/
def wireStringsWrong : ChangeSpec := { name := "wireStrings", fn := fun _ => fun
  | [d1, d2, d3] => { results := [.lit (.bool false)], args := [d1, d2, d3] }
  | _ => none }
def WireStringsWrongFalsely : Prop := wireStringsRow.holds Try.pinned (OpenSpec.ofChange wireStringsWrong)

/-- 'letterboxlaw18.WireWords': WHATEVER THE INPUT: true; the input reads as it did. -/
def wireWordsSpec : ChangeSpec := { name := "wireWords", fn := fun _ => fun
  | [d] => { results := [.lit (.bool true)], args := [d] }
  | _ => none }
def wireWordsRow : OpenClaim := { program := "ytmdhggiffdkmfaa", sum := "52dfc572f27402cb39a6547b63d8f2c27757b56634958339f148c7d34edb1e4c", func := "letterbox/letterboxlaw18.WireWords", spec := "wireWords", inPlace := ["internal/bytealg.IndexByteString"], unfollowed := true, recurses := true, apart := false }
def WireWordsSaid : Prop := wireWordsRow.holds Try.pinned (OpenSpec.ofChange wireWordsSpec)

/-- ITS FALSE NEIGHBOUR: 'it returns false'. Refute it at one input. -/
def wireWordsWrong : ChangeSpec := { name := "wireWords", fn := fun _ => fun
  | [d] => { results := [.lit (.bool false)], args := [d] }
  | _ => none }
def WireWordsWrongFalsely : Prop := wireWordsRow.holds Try.pinned (OpenSpec.ofChange wireWordsWrong)

/- THE SECOND FORM. 'bulk': how many values and letters a reading holds, each counted each time it is reached (what is shared counts as often as it is met; a slice's spare places count too). A statement '..UptoSaid' is the law's where the arguments, and the package variables that the reading takes, are together of bulk at most 1048576: NARROWER than '..Said'. Prove '..Said' where nothing that the law and all that it calls make is longer than what came in: it says more and counts as full. Else prove '..UptoSaid'. A law counts once. -/
mutual
def uptoBulk {H : Type} : DataW H → Nat
  | .lit (.string bytes) => bytes.length + 1
  | .lit _ => 1
  | .nil => 1
  | .ptr d => uptoBulk d + 1
  | .slice elems spare => uptoBulkAll elems + uptoBulkAll spare + 1
  | .agg parts => uptoBulkAll parts + 1
  | .iface _ d => uptoBulk d + 1
  | .map entries => uptoBulkEntries entries + 1
  | .held _ => 1
def uptoBulkAll {H : Type} : List (DataW H) → Nat
  | [] => 0
  | d :: r => uptoBulk d + uptoBulkAll r
def uptoBulkEntries {H : Type} : List (Lit × DataW H) → Nat
  | [] => 0
  | x :: r => uptoBulkEntry x + uptoBulkEntries r
def uptoBulkEntry {H : Type} : Lit × DataW H → Nat
  | (.string bytes, d) => bytes.length + uptoBulk d + 1
  | (_, d) => uptoBulk d + 1
 end
def uptoSmall : (H : Type) → List (DataW H) → Bool := fun _ ds => decide (uptoBulkAll ds ≤ 1048576)
def OpenSpec.upto (s : _root_.Go.ChangeSpec) : _root_.Go.OpenSpec := { _root_.Go.OpenSpec.ofChange s with cond := some uptoSmall }

/-- 'letterboxlaw18.WireCuts', WHERE WHAT IT READS IS OF BULK AT MOST 1048576: true; the input reads as it did. -/
def wireCutsUptoRow : OpenClaim := { program := "ytmdhggiffdkmfaa", sum := "52dfc572f27402cb39a6547b63d8f2c27757b56634958339f148c7d34edb1e4c", func := "letterbox/letterboxlaw18.WireCuts", spec := "wireCuts", inPlace := ["internal/bytealg.IndexByteString"], unfollowed := true, recurses := true, apart := false, narrowed := true }
def WireCutsUptoSaid : Prop := wireCutsUptoRow.holds Try.pinned (OpenSpec.upto wireCutsSpec)

/-- 'letterboxlaw18.WireLeft', WHERE WHAT IT READS IS OF BULK AT MOST 1048576: true; the input reads as it did. -/
def wireLeftUptoRow : OpenClaim := { program := "ytmdhggiffdkmfaa", sum := "52dfc572f27402cb39a6547b63d8f2c27757b56634958339f148c7d34edb1e4c", func := "letterbox/letterboxlaw18.WireLeft", spec := "wireLeft", inPlace := ["internal/bytealg.IndexByteString"], unfollowed := true, recurses := true, apart := false, narrowed := true }
def WireLeftUptoSaid : Prop := wireLeftUptoRow.holds Try.pinned (OpenSpec.upto wireLeftSpec)

/-- 'letterboxlaw18.WireStrings', WHERE WHAT IT READS IS OF BULK AT MOST 1048576: true; the input reads as it did. -/
def wireStringsUptoRow : OpenClaim := { program := "ytmdhggiffdkmfaa", sum := "52dfc572f27402cb39a6547b63d8f2c27757b56634958339f148c7d34edb1e4c", func := "letterbox/letterboxlaw18.WireStrings", spec := "wireStrings", inPlace := ["internal/bytealg.IndexByteString"], unfollowed := true, recurses := true, apart := false, narrowed := true }
def WireStringsUptoSaid : Prop := wireStringsUptoRow.holds Try.pinned (OpenSpec.upto wireStringsSpec)

/-- 'letterboxlaw18.WireWords', WHERE WHAT IT READS IS OF BULK AT MOST 1048576: true; the input reads as it did. -/
def wireWordsUptoRow : OpenClaim := { program := "ytmdhggiffdkmfaa", sum := "52dfc572f27402cb39a6547b63d8f2c27757b56634958339f148c7d34edb1e4c", func := "letterbox/letterboxlaw18.WireWords", spec := "wireWords", inPlace := ["internal/bytealg.IndexByteString"], unfollowed := true, recurses := true, apart := false, narrowed := true }
def WireWordsUptoSaid : Prop := wireWordsUptoRow.holds Try.pinned (OpenSpec.upto wireWordsSpec)

end Rows
end Go.Proofs.Ytmdhggiffdkmfaa
