/-
  NARROWER THAN 'FOR EVERY INPUT', by the rows' own cells (each row's printed sentence says how): SectionParses: laid · SectionPuts: laid · SectionCase: laid · SectionCuts: laid.
  DERIVED. THE GIVEN ROWS OF THIS SEAT. 4 by the template 'for every input the law returns true; each argument reads behind the call as it read before'; 0 by the template 'total and deterministic' (their statements: YtbjbagocnnffaaaDoorTotals.lean).
  GIVEN WITH THE SEED: the statements are not yours to turn. If you find one false, say at which input.
  Laid BY PROGRAM, IN A SANDBOX (cutbox-rows.mjs): the forced cells as the released guide's own fill.sh prints them over the translation 9b8a512ba7bca59f… (all of the seat's roots in one cut). By AI agents, Wed Nov 11 2026. No macro, syntax, notation, axiom, sorry.
-/
import Derived.Test.YtbjbagocnnffaaaDoorChecked
import GoSem.Claim
import GoSem.ClaimJoined
import GoSem.ClaimMapViews
import Derived.JoinedTies
import Derived.KernelRfl
namespace Go.Proofs.YtbjbagocnnffaaaDoor
/- THE CELL 'sum', in the pinned program and in every row, IS THE sha256 OF THE DUMP (.gsa) THAT YtbjbagocnnffaaaDoorProg.lean LOADS. Nothing in Lean hashes anything: it is a label: what it is worth is what the hold of that sum in a sandbox is worth. -/
noncomputable def Tryd.pinned : Pinned := { name := "ytbjbagocnnffaaadoor", sum := "9b8a512ba7bca59fc3bc61b6cb9f687508205abcafa5248940cb7a72257a2950", checked := Tryd.checked }
namespace Rows
def none {H : Type} : Left H := { results := [], args := [] }

/- WHAT THE LISTED PACKAGE-LEVEL VARIABLES READ AS WHEN THE CALL BEGINS. Each datum BY PROGRAM (the guide's laid-datum.mjs) off the statement by which the dump's own 'gosem.cut.vars' lays the variable. In a bare row this is a premise. The card (YtbjbagocnnffaaaDoorCards.lean) ties it to the program's text. -/
def laid_letterbox_section_words {H : Type} : DataW H := .agg [.lit (.string []), .lit (.string [72, 69, 65, 68, 69, 82]), .lit (.string [72, 69, 65, 68, 69, 82, 46, 70, 73, 69, 76, 68, 83]), .lit (.string [72, 69, 65, 68, 69, 82, 46, 70, 73, 69, 76, 68, 83, 46, 78, 79, 84]), .lit (.string [84, 69, 88, 84]), .lit (.string [77, 73, 77, 69])]

/-- 'letterboxlaw15.SectionParses': WHATEVER THE INPUT: true; the input reads as it did. -/
def sectionParsesSpec : ChangeSpec := { name := "sectionParses", fn := fun _ => fun
  | [d] => { results := [.lit (.bool true)], args := [d] }
  | _ => none }
def sectionParsesRow : OpenClaim := { program := "ytbjbagocnnffaaadoor", sum := "9b8a512ba7bca59fc3bc61b6cb9f687508205abcafa5248940cb7a72257a2950", func := "letterbox/letterboxlaw15.SectionParses", spec := "sectionParses", inPlace := ["internal/abi.NoEscape", "internal/bytealg.MakeNoZero"], unfollowed := true, recurses := true, named := ["letterbox/section.words"], apart := false, laid := [("letterbox/section.words", laid_letterbox_section_words)] }
def SectionParsesSaid : Prop := sectionParsesRow.holds Tryd.pinned (OpenSpec.ofChange sectionParsesSpec)

/-- ITS FALSE NEIGHBOUR: 'it returns false'. Refute it at one input. -/
def sectionParsesWrong : ChangeSpec := { name := "sectionParses", fn := fun _ => fun
  | [d] => { results := [.lit (.bool false)], args := [d] }
  | _ => none }
def SectionParsesWrongFalsely : Prop := sectionParsesRow.holds Tryd.pinned (OpenSpec.ofChange sectionParsesWrong)

/-- 'letterboxlaw15.SectionPuts': WHATEVER THE INPUT: true; the input reads as it did. -/
def sectionPutsSpec : ChangeSpec := { name := "sectionPuts", fn := fun _ => fun
  | [d] => { results := [.lit (.bool true)], args := [d] }
  | _ => none }
def sectionPutsRow : OpenClaim := { program := "ytbjbagocnnffaaadoor", sum := "9b8a512ba7bca59fc3bc61b6cb9f687508205abcafa5248940cb7a72257a2950", func := "letterbox/letterboxlaw15.SectionPuts", spec := "sectionPuts", inPlace := ["internal/abi.NoEscape", "internal/bytealg.MakeNoZero"], unfollowed := true, recurses := true, named := ["letterbox/section.words"], apart := false, laid := [("letterbox/section.words", laid_letterbox_section_words)] }
def SectionPutsSaid : Prop := sectionPutsRow.holds Tryd.pinned (OpenSpec.ofChange sectionPutsSpec)

/-- ITS FALSE NEIGHBOUR: 'it returns false'. Refute it at one input. -/
def sectionPutsWrong : ChangeSpec := { name := "sectionPuts", fn := fun _ => fun
  | [d] => { results := [.lit (.bool false)], args := [d] }
  | _ => none }
def SectionPutsWrongFalsely : Prop := sectionPutsRow.holds Tryd.pinned (OpenSpec.ofChange sectionPutsWrong)

/-- 'letterboxlaw15.SectionCase': WHATEVER THE INPUT: true; the input reads as it did. -/
def sectionCaseSpec : ChangeSpec := { name := "sectionCase", fn := fun _ => fun
  | [d1, d2, d3] => { results := [.lit (.bool true)], args := [d1, d2, d3] }
  | _ => none }
def sectionCaseRow : OpenClaim := { program := "ytbjbagocnnffaaadoor", sum := "9b8a512ba7bca59fc3bc61b6cb9f687508205abcafa5248940cb7a72257a2950", func := "letterbox/letterboxlaw15.SectionCase", spec := "sectionCase", inPlace := ["internal/abi.NoEscape", "internal/bytealg.MakeNoZero"], unfollowed := true, recurses := true, named := ["letterbox/section.words"], apart := false, laid := [("letterbox/section.words", laid_letterbox_section_words)] }
def SectionCaseSaid : Prop := sectionCaseRow.holds Tryd.pinned (OpenSpec.ofChange sectionCaseSpec)

/-- ITS FALSE NEIGHBOUR: 'it returns false'. Refute it at one input. -/
def sectionCaseWrong : ChangeSpec := { name := "sectionCase", fn := fun _ => fun
  | [d1, d2, d3] => { results := [.lit (.bool false)], args := [d1, d2, d3] }
  | _ => none }
def SectionCaseWrongFalsely : Prop := sectionCaseRow.holds Tryd.pinned (OpenSpec.ofChange sectionCaseWrong)

/-- 'letterboxlaw15.SectionCuts': WHATEVER THE INPUT: true; the input reads as it did. -/
def sectionCutsSpec : ChangeSpec := { name := "sectionCuts", fn := fun _ => fun
  | [d1, d2] => { results := [.lit (.bool true)], args := [d1, d2] }
  | _ => none }
def sectionCutsRow : OpenClaim := { program := "ytbjbagocnnffaaadoor", sum := "9b8a512ba7bca59fc3bc61b6cb9f687508205abcafa5248940cb7a72257a2950", func := "letterbox/letterboxlaw15.SectionCuts", spec := "sectionCuts", inPlace := ["internal/abi.NoEscape", "internal/bytealg.MakeNoZero"], unfollowed := true, recurses := true, named := ["letterbox/section.words"], apart := false, laid := [("letterbox/section.words", laid_letterbox_section_words)] }
def SectionCutsSaid : Prop := sectionCutsRow.holds Tryd.pinned (OpenSpec.ofChange sectionCutsSpec)

/-- ITS FALSE NEIGHBOUR: 'it returns false'. Refute it at one input. -/
def sectionCutsWrong : ChangeSpec := { name := "sectionCuts", fn := fun _ => fun
  | [d1, d2] => { results := [.lit (.bool false)], args := [d1, d2] }
  | _ => none }
def SectionCutsWrongFalsely : Prop := sectionCutsRow.holds Tryd.pinned (OpenSpec.ofChange sectionCutsWrong)

/- THE SECOND FORM. 'bulk': how many values and letters a reading holds, each counted each time it is reached (what is shared counts as often as it is met; a slice's spare places count too). A statement '..UptoSaid' is the law's where the arguments, and the package variables that the reading takes, are together of bulk at most 1048576: NARROWER than '..Said'. Prove '..Said' where nothing that the law and all that it calls make is longer than what came in: it says more and counts as full. Else prove '..UptoSaid'. A law counts once. -/
mutual
def uptoBulk {H : Type} : DataW H → Nat
  | .lit (.string bytes) => bytes.length + 1
  | .lit _ => 1
  | .nil => 1
  | .ptr d => uptoBulk d + 1
  | .slice elems spare => uptoBulkAll elems + uptoBulkAll spare + 1
  | .agg parts => uptoBulkAll parts + 1
  | .iface _ d => uptoBulk d + 1
  | .map entries => uptoBulkEntries entries + 1
  | .held _ => 1
def uptoBulkAll {H : Type} : List (DataW H) → Nat
  | [] => 0
  | d :: r => uptoBulk d + uptoBulkAll r
def uptoBulkEntries {H : Type} : List (Lit × DataW H) → Nat
  | [] => 0
  | x :: r => uptoBulkEntry x + uptoBulkEntries r
def uptoBulkEntry {H : Type} : Lit × DataW H → Nat
  | (.string bytes, d) => bytes.length + uptoBulk d + 1
  | (_, d) => uptoBulk d + 1
 end
def uptoSmall : (H : Type) → List (DataW H) → Bool := fun _ ds => decide (uptoBulkAll ds ≤ 1048576)
def OpenSpec.upto (s : _root_.Go.ChangeSpec) : _root_.Go.OpenSpec := { _root_.Go.OpenSpec.ofChange s with cond := some uptoSmall }

/-- 'letterboxlaw15.SectionParses', WHERE WHAT IT READS IS OF BULK AT MOST 1048576: true; the input reads as it did. -/
def sectionParsesUptoRow : OpenClaim := { program := "ytbjbagocnnffaaadoor", sum := "9b8a512ba7bca59fc3bc61b6cb9f687508205abcafa5248940cb7a72257a2950", func := "letterbox/letterboxlaw15.SectionParses", spec := "sectionParses", inPlace := ["internal/abi.NoEscape", "internal/bytealg.MakeNoZero"], unfollowed := true, recurses := true, named := ["letterbox/section.words"], apart := false, laid := [("letterbox/section.words", laid_letterbox_section_words)], narrowed := true }
def SectionParsesUptoSaid : Prop := sectionParsesUptoRow.holds Tryd.pinned (OpenSpec.upto sectionParsesSpec)

/-- 'letterboxlaw15.SectionPuts', WHERE WHAT IT READS IS OF BULK AT MOST 1048576: true; the input reads as it did. -/
def sectionPutsUptoRow : OpenClaim := { program := "ytbjbagocnnffaaadoor", sum := "9b8a512ba7bca59fc3bc61b6cb9f687508205abcafa5248940cb7a72257a2950", func := "letterbox/letterboxlaw15.SectionPuts", spec := "sectionPuts", inPlace := ["internal/abi.NoEscape", "internal/bytealg.MakeNoZero"], unfollowed := true, recurses := true, named := ["letterbox/section.words"], apart := false, laid := [("letterbox/section.words", laid_letterbox_section_words)], narrowed := true }
def SectionPutsUptoSaid : Prop := sectionPutsUptoRow.holds Tryd.pinned (OpenSpec.upto sectionPutsSpec)

/-- 'letterboxlaw15.SectionCase', WHERE WHAT IT READS IS OF BULK AT MOST 1048576: true; the input reads as it did. -/
def sectionCaseUptoRow : OpenClaim := { program := "ytbjbagocnnffaaadoor", sum := "9b8a512ba7bca59fc3bc61b6cb9f687508205abcafa5248940cb7a72257a2950", func := "letterbox/letterboxlaw15.SectionCase", spec := "sectionCase", inPlace := ["internal/abi.NoEscape", "internal/bytealg.MakeNoZero"], unfollowed := true, recurses := true, named := ["letterbox/section.words"], apart := false, laid := [("letterbox/section.words", laid_letterbox_section_words)], narrowed := true }
def SectionCaseUptoSaid : Prop := sectionCaseUptoRow.holds Tryd.pinned (OpenSpec.upto sectionCaseSpec)

/-- 'letterboxlaw15.SectionCuts', WHERE WHAT IT READS IS OF BULK AT MOST 1048576: true; the input reads as it did. -/
def sectionCutsUptoRow : OpenClaim := { program := "ytbjbagocnnffaaadoor", sum := "9b8a512ba7bca59fc3bc61b6cb9f687508205abcafa5248940cb7a72257a2950", func := "letterbox/letterboxlaw15.SectionCuts", spec := "sectionCuts", inPlace := ["internal/abi.NoEscape", "internal/bytealg.MakeNoZero"], unfollowed := true, recurses := true, named := ["letterbox/section.words"], apart := false, laid := [("letterbox/section.words", laid_letterbox_section_words)], narrowed := true }
def SectionCutsUptoSaid : Prop := sectionCutsUptoRow.holds Tryd.pinned (OpenSpec.upto sectionCutsSpec)

end Rows
end Go.Proofs.YtbjbagocnnffaaaDoor
