/-
  DERIVED. GIVEN WITH THE SEED: THE CARDS: each row of YtnmojlolgioijaaDoorRows.lean that lists a variable, with what it lists TIED to the program's text (the seventh form; the later family's looks); each row that meets fmt, with fmt's text TOLD by the authors' own Lean function (tested against real Go, not proved from fmt's source: count such statements apart). THE CARD IS WHAT COUNTS. Prove the row's statement (the work); the ties are given (YtnmojlolgioijaaDoorTie.lean); close each card by the builder's one call (the guide's Derived/Test/ToyasCard.lean, 'card_holds'). Laid BY PROGRAM, IN A SANDBOX (cutbox-door.mjs). By AI agents, Wed Nov 11 2026. No macro, syntax, notation, axiom, sorry.
-/
import Derived.Test.YtnmojlolgioijaaDoorRows
import GoSem.ClaimSeven
namespace Go.Proofs.YtnmojlolgioijaaDoor
namespace Rows

/-- THE TIED CARD OF 'letterboxlaw02.B64Encodes'. -/
def b64EncodesCard : Claim7 := { stood := { row := b64EncodesRow, standIns := [], harness := (true, "162e1f4855601fac224b77a922c6e57641d60fb35528dacb10a6343f65d53b7e"), looks := false }, kinds := [], alts := [], laidByText := true, laidKinds := [.data], laidTests := true, laidLooks := .later }
def B64EncodesCardSaid : Prop := Claim7.holds Tryd.pinned (.plain (OpenSpec.ofChange b64EncodesSpec)) b64EncodesCard

/-- THE TIED CARD OF 'letterboxlaw02.B64Decodes'. -/
def b64DecodesCard : Claim7 := { stood := { row := b64DecodesRow, standIns := [], harness := (true, "162e1f4855601fac224b77a922c6e57641d60fb35528dacb10a6343f65d53b7e"), looks := false }, kinds := [], alts := [], laidByText := true, laidKinds := [.data], laidTests := true, laidLooks := .later }
def B64DecodesCardSaid : Prop := Claim7.holds Tryd.pinned (.plain (OpenSpec.ofChange b64DecodesSpec)) b64DecodesCard

/-- THE TIED CARD OF 'letterboxlaw02.B64Back'. -/
def b64BackCard : Claim7 := { stood := { row := b64BackRow, standIns := [], harness := (true, "162e1f4855601fac224b77a922c6e57641d60fb35528dacb10a6343f65d53b7e"), looks := false }, kinds := [], alts := [], laidByText := true, laidKinds := [.data], laidTests := true, laidLooks := .later }
def B64BackCardSaid : Prop := Claim7.holds Tryd.pinned (.plain (OpenSpec.ofChange b64BackSpec)) b64BackCard

/-- THE TIED CARD OF 'letterboxlaw02.B64Spoiled'. -/
def b64SpoiledCard : Claim7 := { stood := { row := b64SpoiledRow, standIns := [], harness := (true, "162e1f4855601fac224b77a922c6e57641d60fb35528dacb10a6343f65d53b7e"), looks := false }, kinds := [], alts := [], laidByText := true, laidKinds := [.data], laidTests := true, laidLooks := .later }
def B64SpoiledCardSaid : Prop := Claim7.holds Tryd.pinned (.plain (OpenSpec.ofChange b64SpoiledSpec)) b64SpoiledCard

/-- THE TIED CARD OF 'letterboxlaw02.B64Long'. -/
def b64LongCard : Claim7 := { stood := { row := b64LongRow, standIns := [], harness := (true, "162e1f4855601fac224b77a922c6e57641d60fb35528dacb10a6343f65d53b7e"), looks := false }, kinds := [], alts := [], laidByText := true, laidKinds := [.data], laidTests := true, laidLooks := .later }
def B64LongCardSaid : Prop := Claim7.holds Tryd.pinned (.plain (OpenSpec.ofChange b64LongSpec)) b64LongCard

/-- THE SECOND FORM's CARD OF 'letterboxlaw02.B64Encodes'. -/
def b64EncodesUptoCard : Claim7 := { stood := { row := b64EncodesUptoRow, standIns := [], harness := (true, "162e1f4855601fac224b77a922c6e57641d60fb35528dacb10a6343f65d53b7e"), looks := false }, kinds := [], alts := [], laidByText := true, laidKinds := [.data], laidTests := true, laidLooks := .later }
def B64EncodesUptoCardSaid : Prop := Claim7.holds Tryd.pinned (.plain (OpenSpec.upto b64EncodesSpec)) b64EncodesUptoCard

/-- THE SECOND FORM's CARD OF 'letterboxlaw02.B64Decodes'. -/
def b64DecodesUptoCard : Claim7 := { stood := { row := b64DecodesUptoRow, standIns := [], harness := (true, "162e1f4855601fac224b77a922c6e57641d60fb35528dacb10a6343f65d53b7e"), looks := false }, kinds := [], alts := [], laidByText := true, laidKinds := [.data], laidTests := true, laidLooks := .later }
def B64DecodesUptoCardSaid : Prop := Claim7.holds Tryd.pinned (.plain (OpenSpec.upto b64DecodesSpec)) b64DecodesUptoCard

/-- THE SECOND FORM's CARD OF 'letterboxlaw02.B64Back'. -/
def b64BackUptoCard : Claim7 := { stood := { row := b64BackUptoRow, standIns := [], harness := (true, "162e1f4855601fac224b77a922c6e57641d60fb35528dacb10a6343f65d53b7e"), looks := false }, kinds := [], alts := [], laidByText := true, laidKinds := [.data], laidTests := true, laidLooks := .later }
def B64BackUptoCardSaid : Prop := Claim7.holds Tryd.pinned (.plain (OpenSpec.upto b64BackSpec)) b64BackUptoCard

/-- THE SECOND FORM's CARD OF 'letterboxlaw02.B64Spoiled'. -/
def b64SpoiledUptoCard : Claim7 := { stood := { row := b64SpoiledUptoRow, standIns := [], harness := (true, "162e1f4855601fac224b77a922c6e57641d60fb35528dacb10a6343f65d53b7e"), looks := false }, kinds := [], alts := [], laidByText := true, laidKinds := [.data], laidTests := true, laidLooks := .later }
def B64SpoiledUptoCardSaid : Prop := Claim7.holds Tryd.pinned (.plain (OpenSpec.upto b64SpoiledSpec)) b64SpoiledUptoCard

/-- THE SECOND FORM's CARD OF 'letterboxlaw02.B64Long'. -/
def b64LongUptoCard : Claim7 := { stood := { row := b64LongUptoRow, standIns := [], harness := (true, "162e1f4855601fac224b77a922c6e57641d60fb35528dacb10a6343f65d53b7e"), looks := false }, kinds := [], alts := [], laidByText := true, laidKinds := [.data], laidTests := true, laidLooks := .later }
def B64LongUptoCardSaid : Prop := Claim7.holds Tryd.pinned (.plain (OpenSpec.upto b64LongSpec)) b64LongUptoCard
end Rows
end Go.Proofs.YtnmojlolgioijaaDoor
