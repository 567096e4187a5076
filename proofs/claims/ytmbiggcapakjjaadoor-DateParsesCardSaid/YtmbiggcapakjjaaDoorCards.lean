/-
  DERIVED. GIVEN WITH THE SEED: THE CARDS: each row of YtmbiggcapakjjaaDoorRows.lean that lists a variable, with what it lists TIED to the program's text (the seventh form; the later family's looks); each row that meets fmt, with fmt's text TOLD by the authors' own Lean function (tested against real Go, not proved from fmt's source: count such statements apart). THE CARD IS WHAT COUNTS. Prove the row's statement (the work); the ties are given (YtmbiggcapakjjaaDoorTie.lean); close each card by the builder's one call (the guide's Derived/Test/ToyasCard.lean, 'card_holds'). Laid BY PROGRAM, IN A SANDBOX (cutbox-door.mjs). By AI agents, Wed Nov 11 2026. No macro, syntax, notation, axiom, sorry.
-/
import Derived.Test.YtmbiggcapakjjaaDoorRows
import GoSem.ClaimSeven
namespace Go.Proofs.YtmbiggcapakjjaaDoor
namespace Rows

/-- THE TIED CARD OF 'letterboxlaw11.DateParses'. -/
def dateParsesCard : Claim7 := { stood := { row := dateParsesRow, standIns := [], harness := (true, "79f082d9d358ccdcc65a7cfdd15dcfb4444142ac59ff0f56665720fcbf0db886"), looks := false }, kinds := [], alts := [], laidByText := true, laidKinds := [.data, .data, .pinned], laidTests := true, laidLooks := .later }
def DateParsesCardSaid : Prop := Claim7.holds Tryd.pinned (.plain (OpenSpec.ofChange dateParsesSpec)) dateParsesCard

/-- THE TIED CARD OF 'letterboxlaw11.DateInternal'. -/
def dateInternalCard : Claim7 := { stood := { row := dateInternalRow, standIns := [], harness := (true, "79f082d9d358ccdcc65a7cfdd15dcfb4444142ac59ff0f56665720fcbf0db886"), looks := false }, kinds := [], alts := [], laidByText := true, laidKinds := [.data, .data, .pinned], laidTests := true, laidLooks := .later }
def DateInternalCardSaid : Prop := Claim7.holds Tryd.pinned (.plain (OpenSpec.ofChange dateInternalSpec)) dateInternalCard

/-- THE TIED CARD OF 'letterboxlaw11.DateDays'. -/
def dateDaysCard : Claim7 := { stood := { row := dateDaysRow, standIns := [], harness := (true, "79f082d9d358ccdcc65a7cfdd15dcfb4444142ac59ff0f56665720fcbf0db886"), looks := false }, kinds := [], alts := [], laidByText := true, laidKinds := [.data, .data, .pinned], laidTests := true, laidLooks := .later }
def DateDaysCardSaid : Prop := Claim7.holds Tryd.pinned (.plain (OpenSpec.ofChange dateDaysSpec)) dateDaysCard

/-- THE TIED CARD OF 'letterboxlaw11.DateZones'. -/
def dateZonesCard : Claim7 := { stood := { row := dateZonesRow, standIns := [], harness := (true, "79f082d9d358ccdcc65a7cfdd15dcfb4444142ac59ff0f56665720fcbf0db886"), looks := false }, kinds := [], alts := [], laidByText := true, laidKinds := [.data, .data, .pinned], laidTests := true, laidLooks := .later }
def DateZonesCardSaid : Prop := Claim7.holds Tryd.pinned (.plain (OpenSpec.ofChange dateZonesSpec)) dateZonesCard

/-- THE SECOND FORM's CARD OF 'letterboxlaw11.DateParses'. -/
def dateParsesUptoCard : Claim7 := { stood := { row := dateParsesUptoRow, standIns := [], harness := (true, "79f082d9d358ccdcc65a7cfdd15dcfb4444142ac59ff0f56665720fcbf0db886"), looks := false }, kinds := [], alts := [], laidByText := true, laidKinds := [.data, .data, .pinned], laidTests := true, laidLooks := .later }
def DateParsesUptoCardSaid : Prop := Claim7.holds Tryd.pinned (.plain (OpenSpec.upto dateParsesSpec)) dateParsesUptoCard

/-- THE SECOND FORM's CARD OF 'letterboxlaw11.DateInternal'. -/
def dateInternalUptoCard : Claim7 := { stood := { row := dateInternalUptoRow, standIns := [], harness := (true, "79f082d9d358ccdcc65a7cfdd15dcfb4444142ac59ff0f56665720fcbf0db886"), looks := false }, kinds := [], alts := [], laidByText := true, laidKinds := [.data, .data, .pinned], laidTests := true, laidLooks := .later }
def DateInternalUptoCardSaid : Prop := Claim7.holds Tryd.pinned (.plain (OpenSpec.upto dateInternalSpec)) dateInternalUptoCard

/-- THE SECOND FORM's CARD OF 'letterboxlaw11.DateDays'. -/
def dateDaysUptoCard : Claim7 := { stood := { row := dateDaysUptoRow, standIns := [], harness := (true, "79f082d9d358ccdcc65a7cfdd15dcfb4444142ac59ff0f56665720fcbf0db886"), looks := false }, kinds := [], alts := [], laidByText := true, laidKinds := [.data, .data, .pinned], laidTests := true, laidLooks := .later }
def DateDaysUptoCardSaid : Prop := Claim7.holds Tryd.pinned (.plain (OpenSpec.upto dateDaysSpec)) dateDaysUptoCard

/-- THE SECOND FORM's CARD OF 'letterboxlaw11.DateZones'. -/
def dateZonesUptoCard : Claim7 := { stood := { row := dateZonesUptoRow, standIns := [], harness := (true, "79f082d9d358ccdcc65a7cfdd15dcfb4444142ac59ff0f56665720fcbf0db886"), looks := false }, kinds := [], alts := [], laidByText := true, laidKinds := [.data, .data, .pinned], laidTests := true, laidLooks := .later }
def DateZonesUptoCardSaid : Prop := Claim7.holds Tryd.pinned (.plain (OpenSpec.upto dateZonesSpec)) dateZonesUptoCard
end Rows
end Go.Proofs.YtmbiggcapakjjaaDoor
