/-
  No cell of these rows narrows 'for every input' (looked for: loops, veiled, ifaces, maps, wideKeys, modest, calm, conditions, laid).
  DERIVED. THE GIVEN ROWS OF THIS SEAT. 5 by the template 'for every input the law returns true; each argument reads behind the call as it read before'; 0 by the template 'total and deterministic' (their statements: YteakllmajhnhpaaTotals.lean).
  GIVEN WITH THE SEED: the statements are not yours to turn. If you find one false, say at which input.
  Laid BY PROGRAM, IN A SANDBOX (cutbox-rows.mjs): the forced cells as the released guide's own fill.sh prints them over the translation c6814055d6da18ac… (all of the seat's roots in one cut). By AI agents, Wed Nov 11 2026. No macro, syntax, notation, axiom, sorry.
-/
import Derived.Test.YteakllmajhnhpaaChecked
import GoSem.Claim
import GoSem.ClaimJoined
import GoSem.ClaimMapViews
import Derived.JoinedTies
import Derived.KernelRfl
namespace Go.Proofs.Yteakllmajhnhpaa
/- THE CELL 'sum', in the pinned program and in every row, IS THE sha256 OF THE DUMP (.gsa) THAT YteakllmajhnhpaaProg.lean LOADS. Nothing in Lean hashes anything: it is a label: what it is worth is what the hold of that sum in a sandbox is worth. -/
noncomputable def Try.pinned : Pinned := { name := "yteakllmajhnhpaa", sum := "c6814055d6da18ac103276b4baff081a36dde441b797aa0a9f906fe78edd403b", checked := Try.checked }
namespace Rows
def none {H : Type} : Left H := { results := [], args := [] }

/-- 'letterboxlaw04.CrcOf': WHATEVER THE INPUT: true; the input reads as it did. -/
def crcOfSpec : ChangeSpec := { name := "crcOf", fn := fun _ => fun
  | [d1, d2] => { results := [.lit (.bool true)], args := [d1, d2] }
  | _ => none }
def crcOfRow : OpenClaim := { program := "yteakllmajhnhpaa", sum := "c6814055d6da18ac103276b4baff081a36dde441b797aa0a9f906fe78edd403b", func := "letterbox/letterboxlaw04.CrcOf", spec := "crcOf", apart := false }
def CrcOfSaid : Prop := crcOfRow.holds Try.pinned (OpenSpec.ofChange crcOfSpec)

/-- ITS FALSE NEIGHBOUR: 'it returns false'. Refute it at one input. -/
def crcOfWrong : ChangeSpec := { name := "crcOf", fn := fun _ => fun
  | [d1, d2] => { results := [.lit (.bool false)], args := [d1, d2] }
  | _ => none }
def CrcOfWrongFalsely : Prop := crcOfRow.holds Try.pinned (OpenSpec.ofChange crcOfWrong)

/-- 'letterboxlaw04.CrcParts': WHATEVER THE INPUT: true; the input reads as it did. -/
def crcPartsSpec : ChangeSpec := { name := "crcParts", fn := fun _ => fun
  | [d1, d2, d3] => { results := [.lit (.bool true)], args := [d1, d2, d3] }
  | _ => none }
def crcPartsRow : OpenClaim := { program := "yteakllmajhnhpaa", sum := "c6814055d6da18ac103276b4baff081a36dde441b797aa0a9f906fe78edd403b", func := "letterbox/letterboxlaw04.CrcParts", spec := "crcParts", apart := false }
def CrcPartsSaid : Prop := crcPartsRow.holds Try.pinned (OpenSpec.ofChange crcPartsSpec)

/-- ITS FALSE NEIGHBOUR: 'it returns false'. Refute it at one input. -/
def crcPartsWrong : ChangeSpec := { name := "crcParts", fn := fun _ => fun
  | [d1, d2, d3] => { results := [.lit (.bool false)], args := [d1, d2, d3] }
  | _ => none }
def CrcPartsWrongFalsely : Prop := crcPartsRow.holds Try.pinned (OpenSpec.ofChange crcPartsWrong)

/-- 'letterboxlaw04.CrcBurst': WHATEVER THE INPUT: true; the input reads as it did. -/
def crcBurstSpec : ChangeSpec := { name := "crcBurst", fn := fun _ => fun
  | [d1, d2, d3] => { results := [.lit (.bool true)], args := [d1, d2, d3] }
  | _ => none }
def crcBurstRow : OpenClaim := { program := "yteakllmajhnhpaa", sum := "c6814055d6da18ac103276b4baff081a36dde441b797aa0a9f906fe78edd403b", func := "letterbox/letterboxlaw04.CrcBurst", spec := "crcBurst", apart := false }
def CrcBurstSaid : Prop := crcBurstRow.holds Try.pinned (OpenSpec.ofChange crcBurstSpec)

/-- ITS FALSE NEIGHBOUR: 'it returns false'. Refute it at one input. -/
def crcBurstWrong : ChangeSpec := { name := "crcBurst", fn := fun _ => fun
  | [d1, d2, d3] => { results := [.lit (.bool false)], args := [d1, d2, d3] }
  | _ => none }
def CrcBurstWrongFalsely : Prop := crcBurstRow.holds Try.pinned (OpenSpec.ofChange crcBurstWrong)

/-- 'letterboxlaw04.CrcNoughts': WHATEVER THE INPUT: true; the input reads as it did. -/
def crcNoughtsSpec : ChangeSpec := { name := "crcNoughts", fn := fun _ => fun
  | [d1, d2, d3] => { results := [.lit (.bool true)], args := [d1, d2, d3] }
  | _ => none }
def crcNoughtsRow : OpenClaim := { program := "yteakllmajhnhpaa", sum := "c6814055d6da18ac103276b4baff081a36dde441b797aa0a9f906fe78edd403b", func := "letterbox/letterboxlaw04.CrcNoughts", spec := "crcNoughts", apart := false }
def CrcNoughtsSaid : Prop := crcNoughtsRow.holds Try.pinned (OpenSpec.ofChange crcNoughtsSpec)

/-- ITS FALSE NEIGHBOUR: 'it returns false'. Refute it at one input. -/
def crcNoughtsWrong : ChangeSpec := { name := "crcNoughts", fn := fun _ => fun
  | [d1, d2, d3] => { results := [.lit (.bool false)], args := [d1, d2, d3] }
  | _ => none }
def CrcNoughtsWrongFalsely : Prop := crcNoughtsRow.holds Try.pinned (OpenSpec.ofChange crcNoughtsWrong)

/-- 'letterboxlaw04.CrcOne': WHATEVER THE INPUT: true; the input reads as it did. -/
def crcOneSpec : ChangeSpec := { name := "crcOne", fn := fun _ => fun
  | [d1, d2, d3] => { results := [.lit (.bool true)], args := [d1, d2, d3] }
  | _ => none }
def crcOneRow : OpenClaim := { program := "yteakllmajhnhpaa", sum := "c6814055d6da18ac103276b4baff081a36dde441b797aa0a9f906fe78edd403b", func := "letterbox/letterboxlaw04.CrcOne", spec := "crcOne", apart := false }
def CrcOneSaid : Prop := crcOneRow.holds Try.pinned (OpenSpec.ofChange crcOneSpec)

/-- ITS FALSE NEIGHBOUR: 'it returns false'. Refute it at one input. -/
def crcOneWrong : ChangeSpec := { name := "crcOne", fn := fun _ => fun
  | [d1, d2, d3] => { results := [.lit (.bool false)], args := [d1, d2, d3] }
  | _ => none }
def CrcOneWrongFalsely : Prop := crcOneRow.holds Try.pinned (OpenSpec.ofChange crcOneWrong)

/- THE SECOND FORM. 'bulk': how many values and letters a reading holds, each counted each time it is reached (what is shared counts as often as it is met; a slice's spare places count too). A statement '..UptoSaid' is the law's where the arguments, and the package variables that the reading takes, are together of bulk at most 1048576: NARROWER than '..Said'. Prove '..Said' where nothing that the law and all that it calls make is longer than what came in: it says more and counts as full. Else prove '..UptoSaid'. A law counts once. -/
mutual
def uptoBulk {H : Type} : DataW H → Nat
  | .lit (.string bytes) => bytes.length + 1
  | .lit _ => 1
  | .nil => 1
  | .ptr d => uptoBulk d + 1
  | .slice elems spare => uptoBulkAll elems + uptoBulkAll spare + 1
  | .agg parts => uptoBulkAll parts + 1
  | .iface _ d => uptoBulk d + 1
  | .map entries => uptoBulkEntries entries + 1
  | .held _ => 1
def uptoBulkAll {H : Type} : List (DataW H) → Nat
  | [] => 0
  | d :: r => uptoBulk d + uptoBulkAll r
def uptoBulkEntries {H : Type} : List (Lit × DataW H) → Nat
  | [] => 0
  | x :: r => uptoBulkEntry x + uptoBulkEntries r
def uptoBulkEntry {H : Type} : Lit × DataW H → Nat
  | (.string bytes, d) => bytes.length + uptoBulk d + 1
  | (_, d) => uptoBulk d + 1
 end
def uptoSmall : (H : Type) → List (DataW H) → Bool := fun _ ds => decide (uptoBulkAll ds ≤ 1048576)
def OpenSpec.upto (s : _root_.Go.ChangeSpec) : _root_.Go.OpenSpec := { _root_.Go.OpenSpec.ofChange s with cond := some uptoSmall }

/-- 'letterboxlaw04.CrcOf', WHERE WHAT IT READS IS OF BULK AT MOST 1048576: true; the input reads as it did. -/
def crcOfUptoRow : OpenClaim := { program := "yteakllmajhnhpaa", sum := "c6814055d6da18ac103276b4baff081a36dde441b797aa0a9f906fe78edd403b", func := "letterbox/letterboxlaw04.CrcOf", spec := "crcOf", apart := false, narrowed := true }
def CrcOfUptoSaid : Prop := crcOfUptoRow.holds Try.pinned (OpenSpec.upto crcOfSpec)

/-- 'letterboxlaw04.CrcParts', WHERE WHAT IT READS IS OF BULK AT MOST 1048576: true; the input reads as it did. -/
def crcPartsUptoRow : OpenClaim := { program := "yteakllmajhnhpaa", sum := "c6814055d6da18ac103276b4baff081a36dde441b797aa0a9f906fe78edd403b", func := "letterbox/letterboxlaw04.CrcParts", spec := "crcParts", apart := false, narrowed := true }
def CrcPartsUptoSaid : Prop := crcPartsUptoRow.holds Try.pinned (OpenSpec.upto crcPartsSpec)

/-- 'letterboxlaw04.CrcBurst', WHERE WHAT IT READS IS OF BULK AT MOST 1048576: true; the input reads as it did. -/
def crcBurstUptoRow : OpenClaim := { program := "yteakllmajhnhpaa", sum := "c6814055d6da18ac103276b4baff081a36dde441b797aa0a9f906fe78edd403b", func := "letterbox/letterboxlaw04.CrcBurst", spec := "crcBurst", apart := false, narrowed := true }
def CrcBurstUptoSaid : Prop := crcBurstUptoRow.holds Try.pinned (OpenSpec.upto crcBurstSpec)

/-- 'letterboxlaw04.CrcNoughts', WHERE WHAT IT READS IS OF BULK AT MOST 1048576: true; the input reads as it did. -/
def crcNoughtsUptoRow : OpenClaim := { program := "yteakllmajhnhpaa", sum := "c6814055d6da18ac103276b4baff081a36dde441b797aa0a9f906fe78edd403b", func := "letterbox/letterboxlaw04.CrcNoughts", spec := "crcNoughts", apart := false, narrowed := true }
def CrcNoughtsUptoSaid : Prop := crcNoughtsUptoRow.holds Try.pinned (OpenSpec.upto crcNoughtsSpec)

/-- 'letterboxlaw04.CrcOne', WHERE WHAT IT READS IS OF BULK AT MOST 1048576: true; the input reads as it did. -/
def crcOneUptoRow : OpenClaim := { program := "yteakllmajhnhpaa", sum := "c6814055d6da18ac103276b4baff081a36dde441b797aa0a9f906fe78edd403b", func := "letterbox/letterboxlaw04.CrcOne", spec := "crcOne", apart := false, narrowed := true }
def CrcOneUptoSaid : Prop := crcOneUptoRow.holds Try.pinned (OpenSpec.upto crcOneSpec)

end Rows
end Go.Proofs.Yteakllmajhnhpaa
