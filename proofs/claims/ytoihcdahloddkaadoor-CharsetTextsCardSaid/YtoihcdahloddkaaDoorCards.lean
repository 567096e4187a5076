/-
  DERIVED. GIVEN WITH THE SEED: THE CARDS: each row of YtoihcdahloddkaaDoorRows.lean that lists a variable, with what it lists TIED to the program's text (the seventh form; the later family's looks); each row that meets fmt, with fmt's text TOLD by the authors' own Lean function (tested against real Go, not proved from fmt's source: count such statements apart). THE CARD IS WHAT COUNTS. Prove the row's statement (the work); the ties are given (YtoihcdahloddkaaDoorTie.lean); close each card by the builder's one call (the guide's Derived/Test/ToyasCard.lean, 'card_holds'). Laid BY PROGRAM, IN A SANDBOX (cutbox-door.mjs). By AI agents, Wed Nov 11 2026. No macro, syntax, notation, axiom, sorry.
-/
import Derived.Test.YtoihcdahloddkaaDoorRows
import GoSem.ClaimSeven
namespace Go.Proofs.YtoihcdahloddkaaDoor
namespace Rows

/-- THE TIED CARD OF 'letterboxlaw08.CharsetTexts'. -/
def charsetTextsCard : Claim7 := { stood := { row := charsetTextsRow, standIns := [], harness := (true, "d1e8f8d5a3a81a40efddf183846052477b1e6f775c153365e8179651fa0ef27b"), looks := false }, kinds := [], alts := [], laidByText := true, laidKinds := [.data, .pinned], laidTests := true, laidLooks := .later }
def CharsetTextsCardSaid : Prop := Claim7.holds Tryd.pinned (.plain (OpenSpec.ofChange charsetTextsSpec)) charsetTextsCard

/-- THE TIED CARD OF 'letterboxlaw08.CharsetBack'. -/
def charsetBackCard : Claim7 := { stood := { row := charsetBackRow, standIns := [], harness := (true, "d1e8f8d5a3a81a40efddf183846052477b1e6f775c153365e8179651fa0ef27b"), looks := false }, kinds := [], alts := [], laidByText := true, laidKinds := [.data, .pinned], laidTests := true, laidLooks := .later }
def CharsetBackCardSaid : Prop := Claim7.holds Tryd.pinned (.plain (OpenSpec.ofChange charsetBackSpec)) charsetBackCard

/-- THE TIED CARD OF 'letterboxlaw08.CharsetChars'. -/
def charsetCharsCard : Claim7 := { stood := { row := charsetCharsRow, standIns := [], harness := (true, "d1e8f8d5a3a81a40efddf183846052477b1e6f775c153365e8179651fa0ef27b"), looks := false }, kinds := [], alts := [], laidByText := true, laidKinds := [.data, .pinned], laidTests := true, laidLooks := .later }
def CharsetCharsCardSaid : Prop := Claim7.holds Tryd.pinned (.plain (OpenSpec.ofChange charsetCharsSpec)) charsetCharsCard

/-- THE TIED CARD OF 'letterboxlaw08.CharsetJoins'. -/
def charsetJoinsCard : Claim7 := { stood := { row := charsetJoinsRow, standIns := [], harness := (true, "d1e8f8d5a3a81a40efddf183846052477b1e6f775c153365e8179651fa0ef27b"), looks := false }, kinds := [], alts := [], laidByText := true, laidKinds := [.data, .pinned], laidTests := true, laidLooks := .later }
def CharsetJoinsCardSaid : Prop := Claim7.holds Tryd.pinned (.plain (OpenSpec.ofChange charsetJoinsSpec)) charsetJoinsCard

/-- THE SECOND FORM's CARD OF 'letterboxlaw08.CharsetTexts'. -/
def charsetTextsUptoCard : Claim7 := { stood := { row := charsetTextsUptoRow, standIns := [], harness := (true, "d1e8f8d5a3a81a40efddf183846052477b1e6f775c153365e8179651fa0ef27b"), looks := false }, kinds := [], alts := [], laidByText := true, laidKinds := [.data, .pinned], laidTests := true, laidLooks := .later }
def CharsetTextsUptoCardSaid : Prop := Claim7.holds Tryd.pinned (.plain (OpenSpec.upto charsetTextsSpec)) charsetTextsUptoCard

/-- THE SECOND FORM's CARD OF 'letterboxlaw08.CharsetBack'. -/
def charsetBackUptoCard : Claim7 := { stood := { row := charsetBackUptoRow, standIns := [], harness := (true, "d1e8f8d5a3a81a40efddf183846052477b1e6f775c153365e8179651fa0ef27b"), looks := false }, kinds := [], alts := [], laidByText := true, laidKinds := [.data, .pinned], laidTests := true, laidLooks := .later }
def CharsetBackUptoCardSaid : Prop := Claim7.holds Tryd.pinned (.plain (OpenSpec.upto charsetBackSpec)) charsetBackUptoCard

/-- THE SECOND FORM's CARD OF 'letterboxlaw08.CharsetChars'. -/
def charsetCharsUptoCard : Claim7 := { stood := { row := charsetCharsUptoRow, standIns := [], harness := (true, "d1e8f8d5a3a81a40efddf183846052477b1e6f775c153365e8179651fa0ef27b"), looks := false }, kinds := [], alts := [], laidByText := true, laidKinds := [.data, .pinned], laidTests := true, laidLooks := .later }
def CharsetCharsUptoCardSaid : Prop := Claim7.holds Tryd.pinned (.plain (OpenSpec.upto charsetCharsSpec)) charsetCharsUptoCard

/-- THE SECOND FORM's CARD OF 'letterboxlaw08.CharsetJoins'. -/
def charsetJoinsUptoCard : Claim7 := { stood := { row := charsetJoinsUptoRow, standIns := [], harness := (true, "d1e8f8d5a3a81a40efddf183846052477b1e6f775c153365e8179651fa0ef27b"), looks := false }, kinds := [], alts := [], laidByText := true, laidKinds := [.data, .pinned], laidTests := true, laidLooks := .later }
def CharsetJoinsUptoCardSaid : Prop := Claim7.holds Tryd.pinned (.plain (OpenSpec.upto charsetJoinsSpec)) charsetJoinsUptoCard
end Rows
end Go.Proofs.YtoihcdahloddkaaDoor
