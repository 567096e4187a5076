/-
  DERIVED. GIVEN WITH THE SEED: THE CARDS: each row of YtbjbagocnnffaaaDoorRows.lean that lists a variable, with what it lists TIED to the program's text (the seventh form; the later family's looks); each row that meets fmt, with fmt's text TOLD by the authors' own Lean function (tested against real Go, not proved from fmt's source: count such statements apart). THE CARD IS WHAT COUNTS. Prove the row's statement (the work); the ties are given (YtbjbagocnnffaaaDoorTie.lean); close each card by the builder's one call (the guide's Derived/Test/ToyasCard.lean, 'card_holds'). Laid BY PROGRAM, IN A SANDBOX (cutbox-door.mjs). By AI agents, Wed Nov 11 2026. No macro, syntax, notation, axiom, sorry.
-/
import Derived.Test.YtbjbagocnnffaaaDoorRows
import GoSem.ClaimSeven
namespace Go.Proofs.YtbjbagocnnffaaaDoor
namespace Rows

/-- THE TIED CARD OF 'letterboxlaw15.SectionParses'. -/
def sectionParsesCard : Claim7 := { stood := { row := sectionParsesRow, standIns := [], harness := (true, "6e38268bcc34f55a322c0a40b6a9ef2e287b3e4cb630afa5514ddad652c4a25c"), looks := false }, kinds := [], alts := [], laidByText := true, laidKinds := [.data], laidTests := true, laidLooks := .later }
def SectionParsesCardSaid : Prop := Claim7.holds Tryd.pinned (.plain (OpenSpec.ofChange sectionParsesSpec)) sectionParsesCard

/-- THE TIED CARD OF 'letterboxlaw15.SectionPuts'. -/
def sectionPutsCard : Claim7 := { stood := { row := sectionPutsRow, standIns := [], harness := (true, "6e38268bcc34f55a322c0a40b6a9ef2e287b3e4cb630afa5514ddad652c4a25c"), looks := false }, kinds := [], alts := [], laidByText := true, laidKinds := [.data], laidTests := true, laidLooks := .later }
def SectionPutsCardSaid : Prop := Claim7.holds Tryd.pinned (.plain (OpenSpec.ofChange sectionPutsSpec)) sectionPutsCard

/-- THE TIED CARD OF 'letterboxlaw15.SectionCase'. -/
def sectionCaseCard : Claim7 := { stood := { row := sectionCaseRow, standIns := [], harness := (true, "6e38268bcc34f55a322c0a40b6a9ef2e287b3e4cb630afa5514ddad652c4a25c"), looks := false }, kinds := [], alts := [], laidByText := true, laidKinds := [.data], laidTests := true, laidLooks := .later }
def SectionCaseCardSaid : Prop := Claim7.holds Tryd.pinned (.plain (OpenSpec.ofChange sectionCaseSpec)) sectionCaseCard

/-- THE TIED CARD OF 'letterboxlaw15.SectionCuts'. -/
def sectionCutsCard : Claim7 := { stood := { row := sectionCutsRow, standIns := [], harness := (true, "6e38268bcc34f55a322c0a40b6a9ef2e287b3e4cb630afa5514ddad652c4a25c"), looks := false }, kinds := [], alts := [], laidByText := true, laidKinds := [.data], laidTests := true, laidLooks := .later }
def SectionCutsCardSaid : Prop := Claim7.holds Tryd.pinned (.plain (OpenSpec.ofChange sectionCutsSpec)) sectionCutsCard

/-- THE SECOND FORM's CARD OF 'letterboxlaw15.SectionParses'. -/
def sectionParsesUptoCard : Claim7 := { stood := { row := sectionParsesUptoRow, standIns := [], harness := (true, "6e38268bcc34f55a322c0a40b6a9ef2e287b3e4cb630afa5514ddad652c4a25c"), looks := false }, kinds := [], alts := [], laidByText := true, laidKinds := [.data], laidTests := true, laidLooks := .later }
def SectionParsesUptoCardSaid : Prop := Claim7.holds Tryd.pinned (.plain (OpenSpec.upto sectionParsesSpec)) sectionParsesUptoCard

/-- THE SECOND FORM's CARD OF 'letterboxlaw15.SectionPuts'. -/
def sectionPutsUptoCard : Claim7 := { stood := { row := sectionPutsUptoRow, standIns := [], harness := (true, "6e38268bcc34f55a322c0a40b6a9ef2e287b3e4cb630afa5514ddad652c4a25c"), looks := false }, kinds := [], alts := [], laidByText := true, laidKinds := [.data], laidTests := true, laidLooks := .later }
def SectionPutsUptoCardSaid : Prop := Claim7.holds Tryd.pinned (.plain (OpenSpec.upto sectionPutsSpec)) sectionPutsUptoCard

/-- THE SECOND FORM's CARD OF 'letterboxlaw15.SectionCase'. -/
def sectionCaseUptoCard : Claim7 := { stood := { row := sectionCaseUptoRow, standIns := [], harness := (true, "6e38268bcc34f55a322c0a40b6a9ef2e287b3e4cb630afa5514ddad652c4a25c"), looks := false }, kinds := [], alts := [], laidByText := true, laidKinds := [.data], laidTests := true, laidLooks := .later }
def SectionCaseUptoCardSaid : Prop := Claim7.holds Tryd.pinned (.plain (OpenSpec.upto sectionCaseSpec)) sectionCaseUptoCard

/-- THE SECOND FORM's CARD OF 'letterboxlaw15.SectionCuts'. -/
def sectionCutsUptoCard : Claim7 := { stood := { row := sectionCutsUptoRow, standIns := [], harness := (true, "6e38268bcc34f55a322c0a40b6a9ef2e287b3e4cb630afa5514ddad652c4a25c"), looks := false }, kinds := [], alts := [], laidByText := true, laidKinds := [.data], laidTests := true, laidLooks := .later }
def SectionCutsUptoCardSaid : Prop := Claim7.holds Tryd.pinned (.plain (OpenSpec.upto sectionCutsSpec)) sectionCutsUptoCard
end Rows
end Go.Proofs.YtbjbagocnnffaaaDoor
