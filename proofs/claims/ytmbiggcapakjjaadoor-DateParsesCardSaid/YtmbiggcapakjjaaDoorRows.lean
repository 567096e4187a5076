/-
  NARROWER THAN 'FOR EVERY INPUT', by the rows' own cells (each row's printed sentence says how): DateParses: laid · DateInternal: laid · DateDays: laid · DateZones: laid.
  DERIVED. THE GIVEN ROWS OF THIS SEAT. 4 by the template 'for every input the law returns true; each argument reads behind the call as it read before'; 0 by the template 'total and deterministic' (their statements: YtmbiggcapakjjaaDoorTotals.lean).
  GIVEN WITH THE SEED: the statements are not yours to turn. If you find one false, say at which input.
  Laid BY PROGRAM, IN A SANDBOX (cutbox-rows.mjs): the forced cells as the released guide's own fill.sh prints them over the translation 66ec3322c11c2eff… (all of the seat's roots in one cut). By AI agents, Wed Nov 11 2026. No macro, syntax, notation, axiom, sorry.
-/
import Derived.Test.YtmbiggcapakjjaaDoorChecked
import GoSem.PinnedTables
import GoSem.Claim
import GoSem.ClaimJoined
import GoSem.ClaimMapViews
import Derived.JoinedTies
import Derived.KernelRfl
namespace Go.Proofs.YtmbiggcapakjjaaDoor
/- THE CELL 'sum', in the pinned program and in every row, IS THE sha256 OF THE DUMP (.gsa) THAT YtmbiggcapakjjaaDoorProg.lean LOADS. Nothing in Lean hashes anything: it is a label: what it is worth is what the hold of that sum in a sandbox is worth. -/
noncomputable def Tryd.pinned : Pinned := { name := "ytmbiggcapakjjaadoor", sum := "66ec3322c11c2eff8d1f887874c58eede539e7cf9e99712edaf7ade59f32cc50", checked := Tryd.checked }
namespace Rows
def none {H : Type} : Left H := { results := [], args := [] }

/- WHAT THE LISTED PACKAGE-LEVEL VARIABLES READ AS WHEN THE CALL BEGINS. Each datum BY PROGRAM (the guide's laid-datum.mjs) off the statement by which the dump's own 'gosem.cut.vars' lays the variable. In a bare row this is a premise. The card (YtmbiggcapakjjaaDoorCards.lean) ties it to the program's text. -/
def laid_unicode_utf8_acceptRanges {H : Type} : DataW H := .agg [.agg [.lit (.int .u8 128), .lit (.int .u8 191)], .agg [.lit (.int .u8 160), .lit (.int .u8 191)], .agg [.lit (.int .u8 128), .lit (.int .u8 159)], .agg [.lit (.int .u8 144), .lit (.int .u8 191)], .agg [.lit (.int .u8 128), .lit (.int .u8 143)], .agg [.lit (.int .u8 0), .lit (.int .u8 0)], .agg [.lit (.int .u8 0), .lit (.int .u8 0)], .agg [.lit (.int .u8 0), .lit (.int .u8 0)], .agg [.lit (.int .u8 0), .lit (.int .u8 0)], .agg [.lit (.int .u8 0), .lit (.int .u8 0)], .agg [.lit (.int .u8 0), .lit (.int .u8 0)], .agg [.lit (.int .u8 0), .lit (.int .u8 0)], .agg [.lit (.int .u8 0), .lit (.int .u8 0)], .agg [.lit (.int .u8 0), .lit (.int .u8 0)], .agg [.lit (.int .u8 0), .lit (.int .u8 0)], .agg [.lit (.int .u8 0), .lit (.int .u8 0)]]
def laid_letterbox_date_months {H : Type} : DataW H := .agg [.lit (.string [74, 97, 110]), .lit (.string [70, 101, 98]), .lit (.string [77, 97, 114]), .lit (.string [65, 112, 114]), .lit (.string [77, 97, 121]), .lit (.string [74, 117, 110]), .lit (.string [74, 117, 108]), .lit (.string [65, 117, 103]), .lit (.string [83, 101, 112]), .lit (.string [79, 99, 116]), .lit (.string [78, 111, 118]), .lit (.string [68, 101, 99])]
/-- One of Go's own tables, pinned by name: the form's constant. -/
def laid_unicode_utf8_first : DataW Unit := Go.Pinned.utf8First

/-- 'letterboxlaw11.DateParses': WHATEVER THE INPUT: true; the input reads as it did. -/
def dateParsesSpec : ChangeSpec := { name := "dateParses", fn := fun _ => fun
  | [d] => { results := [.lit (.bool true)], args := [d] }
  | _ => none }
def dateParsesRow : OpenClaim := { program := "ytmbiggcapakjjaadoor", sum := "66ec3322c11c2eff8d1f887874c58eede539e7cf9e99712edaf7ade59f32cc50", func := "letterbox/letterboxlaw11.DateParses", spec := "dateParses", inPlace := ["internal/bytealg.CountString", "internal/bytealg.IndexByteString", "internal/bytealg.IndexString"], named := ["letterbox/date.months", "unicode/utf8.first", "unicode/utf8.acceptRanges", "internal/bytealg.MaxLen"], apart := false, laid := [("unicode/utf8.acceptRanges", laid_unicode_utf8_acceptRanges), ("letterbox/date.months", laid_letterbox_date_months), ("unicode/utf8.first", laid_unicode_utf8_first)] }
def DateParsesSaid : Prop := dateParsesRow.holds Tryd.pinned (OpenSpec.ofChange dateParsesSpec)

/-- ITS FALSE NEIGHBOUR: 'it returns false'. Refute it at one input. -/
def dateParsesWrong : ChangeSpec := { name := "dateParses", fn := fun _ => fun
  | [d] => { results := [.lit (.bool false)], args := [d] }
  | _ => none }
def DateParsesWrongFalsely : Prop := dateParsesRow.holds Tryd.pinned (OpenSpec.ofChange dateParsesWrong)

/-- 'letterboxlaw11.DateInternal': WHATEVER THE INPUT: true; the input reads as it did. -/
def dateInternalSpec : ChangeSpec := { name := "dateInternal", fn := fun _ => fun
  | [d] => { results := [.lit (.bool true)], args := [d] }
  | _ => none }
def dateInternalRow : OpenClaim := { program := "ytmbiggcapakjjaadoor", sum := "66ec3322c11c2eff8d1f887874c58eede539e7cf9e99712edaf7ade59f32cc50", func := "letterbox/letterboxlaw11.DateInternal", spec := "dateInternal", inPlace := ["internal/bytealg.CountString", "internal/bytealg.IndexByteString", "internal/bytealg.IndexString"], named := ["letterbox/date.months", "unicode/utf8.first", "unicode/utf8.acceptRanges", "internal/bytealg.MaxLen"], apart := false, laid := [("unicode/utf8.acceptRanges", laid_unicode_utf8_acceptRanges), ("letterbox/date.months", laid_letterbox_date_months), ("unicode/utf8.first", laid_unicode_utf8_first)] }
def DateInternalSaid : Prop := dateInternalRow.holds Tryd.pinned (OpenSpec.ofChange dateInternalSpec)

/-- ITS FALSE NEIGHBOUR: 'it returns false'. Refute it at one input. -/
def dateInternalWrong : ChangeSpec := { name := "dateInternal", fn := fun _ => fun
  | [d] => { results := [.lit (.bool false)], args := [d] }
  | _ => none }
def DateInternalWrongFalsely : Prop := dateInternalRow.holds Tryd.pinned (OpenSpec.ofChange dateInternalWrong)

/-- 'letterboxlaw11.DateDays': WHATEVER THE INPUT: true; the input reads as it did. -/
def dateDaysSpec : ChangeSpec := { name := "dateDays", fn := fun _ => fun
  | [d] => { results := [.lit (.bool true)], args := [d] }
  | _ => none }
def dateDaysRow : OpenClaim := { program := "ytmbiggcapakjjaadoor", sum := "66ec3322c11c2eff8d1f887874c58eede539e7cf9e99712edaf7ade59f32cc50", func := "letterbox/letterboxlaw11.DateDays", spec := "dateDays", inPlace := ["internal/bytealg.CountString", "internal/bytealg.IndexByteString", "internal/bytealg.IndexString"], named := ["letterbox/date.months", "unicode/utf8.first", "unicode/utf8.acceptRanges", "internal/bytealg.MaxLen"], apart := false, laid := [("unicode/utf8.acceptRanges", laid_unicode_utf8_acceptRanges), ("letterbox/date.months", laid_letterbox_date_months), ("unicode/utf8.first", laid_unicode_utf8_first)] }
def DateDaysSaid : Prop := dateDaysRow.holds Tryd.pinned (OpenSpec.ofChange dateDaysSpec)

/-- ITS FALSE NEIGHBOUR: 'it returns false'. Refute it at one input. -/
def dateDaysWrong : ChangeSpec := { name := "dateDays", fn := fun _ => fun
  | [d] => { results := [.lit (.bool false)], args := [d] }
  | _ => none }
def DateDaysWrongFalsely : Prop := dateDaysRow.holds Tryd.pinned (OpenSpec.ofChange dateDaysWrong)

/-- 'letterboxlaw11.DateZones': WHATEVER THE INPUT: true; the input reads as it did. -/
def dateZonesSpec : ChangeSpec := { name := "dateZones", fn := fun _ => fun
  | [d1, d2, d3] => { results := [.lit (.bool true)], args := [d1, d2, d3] }
  | _ => none }
def dateZonesRow : OpenClaim := { program := "ytmbiggcapakjjaadoor", sum := "66ec3322c11c2eff8d1f887874c58eede539e7cf9e99712edaf7ade59f32cc50", func := "letterbox/letterboxlaw11.DateZones", spec := "dateZones", inPlace := ["internal/bytealg.CountString", "internal/bytealg.IndexByteString", "internal/bytealg.IndexString"], named := ["letterbox/date.months", "unicode/utf8.first", "unicode/utf8.acceptRanges", "internal/bytealg.MaxLen"], apart := false, laid := [("unicode/utf8.acceptRanges", laid_unicode_utf8_acceptRanges), ("letterbox/date.months", laid_letterbox_date_months), ("unicode/utf8.first", laid_unicode_utf8_first)] }
def DateZonesSaid : Prop := dateZonesRow.holds Tryd.pinned (OpenSpec.ofChange dateZonesSpec)

/-- ITS FALSE NEIGHBOUR: 'it returns false'. Refute it at one input. -/
def dateZonesWrong : ChangeSpec := { name := "dateZones", fn := fun _ => fun
  | [d1, d2, d3] => { results := [.lit (.bool false)], args := [d1, d2, d3] }
  | _ => none }
def DateZonesWrongFalsely : Prop := dateZonesRow.holds Tryd.pinned (OpenSpec.ofChange dateZonesWrong)

/- THE SECOND FORM. 'bulk': how many values and letters a reading holds, each counted each time it is reached (what is shared counts as often as it is met; a slice's spare places count too). A statement '..UptoSaid' is the law's where the arguments, and the package variables that the reading takes, are together of bulk at most 1048576: NARROWER than '..Said'. Prove '..Said' where nothing that the law and all that it calls make is longer than what came in: it says more and counts as full. Else prove '..UptoSaid'. A law counts once. -/
mutual
def uptoBulk {H : Type} : DataW H → Nat
  | .lit (.string bytes) => bytes.length + 1
  | .lit _ => 1
  | .nil => 1
  | .ptr d => uptoBulk d + 1
  | .slice elems spare => uptoBulkAll elems + uptoBulkAll spare + 1
  | .agg parts => uptoBulkAll parts + 1
  | .iface _ d => uptoBulk d + 1
  | .map entries => uptoBulkEntries entries + 1
  | .held _ => 1
def uptoBulkAll {H : Type} : List (DataW H) → Nat
  | [] => 0
  | d :: r => uptoBulk d + uptoBulkAll r
def uptoBulkEntries {H : Type} : List (Lit × DataW H) → Nat
  | [] => 0
  | x :: r => uptoBulkEntry x + uptoBulkEntries r
def uptoBulkEntry {H : Type} : Lit × DataW H → Nat
  | (.string bytes, d) => bytes.length + uptoBulk d + 1
  | (_, d) => uptoBulk d + 1
 end
def uptoSmall : (H : Type) → List (DataW H) → Bool := fun _ ds => decide (uptoBulkAll ds ≤ 1048576)
def OpenSpec.upto (s : _root_.Go.ChangeSpec) : _root_.Go.OpenSpec := { _root_.Go.OpenSpec.ofChange s with cond := some uptoSmall }

/-- 'letterboxlaw11.DateParses', WHERE WHAT IT READS IS OF BULK AT MOST 1048576: true; the input reads as it did. -/
def dateParsesUptoRow : OpenClaim := { program := "ytmbiggcapakjjaadoor", sum := "66ec3322c11c2eff8d1f887874c58eede539e7cf9e99712edaf7ade59f32cc50", func := "letterbox/letterboxlaw11.DateParses", spec := "dateParses", inPlace := ["internal/bytealg.CountString", "internal/bytealg.IndexByteString", "internal/bytealg.IndexString"], named := ["letterbox/date.months", "unicode/utf8.first", "unicode/utf8.acceptRanges", "internal/bytealg.MaxLen"], apart := false, laid := [("unicode/utf8.acceptRanges", laid_unicode_utf8_acceptRanges), ("letterbox/date.months", laid_letterbox_date_months), ("unicode/utf8.first", laid_unicode_utf8_first)], narrowed := true }
def DateParsesUptoSaid : Prop := dateParsesUptoRow.holds Tryd.pinned (OpenSpec.upto dateParsesSpec)

/-- 'letterboxlaw11.DateInternal', WHERE WHAT IT READS IS OF BULK AT MOST 1048576: true; the input reads as it did. -/
def dateInternalUptoRow : OpenClaim := { program := "ytmbiggcapakjjaadoor", sum := "66ec3322c11c2eff8d1f887874c58eede539e7cf9e99712edaf7ade59f32cc50", func := "letterbox/letterboxlaw11.DateInternal", spec := "dateInternal", inPlace := ["internal/bytealg.CountString", "internal/bytealg.IndexByteString", "internal/bytealg.IndexString"], named := ["letterbox/date.months", "unicode/utf8.first", "unicode/utf8.acceptRanges", "internal/bytealg.MaxLen"], apart := false, laid := [("unicode/utf8.acceptRanges", laid_unicode_utf8_acceptRanges), ("letterbox/date.months", laid_letterbox_date_months), ("unicode/utf8.first", laid_unicode_utf8_first)], narrowed := true }
def DateInternalUptoSaid : Prop := dateInternalUptoRow.holds Tryd.pinned (OpenSpec.upto dateInternalSpec)

/-- 'letterboxlaw11.DateDays', WHERE WHAT IT READS IS OF BULK AT MOST 1048576: true; the input reads as it did. -/
def dateDaysUptoRow : OpenClaim := { program := "ytmbiggcapakjjaadoor", sum := "66ec3322c11c2eff8d1f887874c58eede539e7cf9e99712edaf7ade59f32cc50", func := "letterbox/letterboxlaw11.DateDays", spec := "dateDays", inPlace := ["internal/bytealg.CountString", "internal/bytealg.IndexByteString", "internal/bytealg.IndexString"], named := ["letterbox/date.months", "unicode/utf8.first", "unicode/utf8.acceptRanges", "internal/bytealg.MaxLen"], apart := false, laid := [("unicode/utf8.acceptRanges", laid_unicode_utf8_acceptRanges), ("letterbox/date.months", laid_letterbox_date_months), ("unicode/utf8.first", laid_unicode_utf8_first)], narrowed := true }
def DateDaysUptoSaid : Prop := dateDaysUptoRow.holds Tryd.pinned (OpenSpec.upto dateDaysSpec)

/-- 'letterboxlaw11.DateZones', WHERE WHAT IT READS IS OF BULK AT MOST 1048576: true; the input reads as it did. -/
def dateZonesUptoRow : OpenClaim := { program := "ytmbiggcapakjjaadoor", sum := "66ec3322c11c2eff8d1f887874c58eede539e7cf9e99712edaf7ade59f32cc50", func := "letterbox/letterboxlaw11.DateZones", spec := "dateZones", inPlace := ["internal/bytealg.CountString", "internal/bytealg.IndexByteString", "internal/bytealg.IndexString"], named := ["letterbox/date.months", "unicode/utf8.first", "unicode/utf8.acceptRanges", "internal/bytealg.MaxLen"], apart := false, laid := [("unicode/utf8.acceptRanges", laid_unicode_utf8_acceptRanges), ("letterbox/date.months", laid_letterbox_date_months), ("unicode/utf8.first", laid_unicode_utf8_first)], narrowed := true }
def DateZonesUptoSaid : Prop := dateZonesUptoRow.holds Tryd.pinned (OpenSpec.upto dateZonesSpec)

end Rows
end Go.Proofs.YtmbiggcapakjjaaDoor
