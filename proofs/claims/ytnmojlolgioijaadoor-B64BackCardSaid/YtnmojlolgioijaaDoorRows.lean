/-
  NARROWER THAN 'FOR EVERY INPUT', by the rows' own cells (each row's printed sentence says how): B64Encodes: laid · B64Decodes: laid · B64Back: laid · B64Spoiled: laid · B64Long: laid.
  DERIVED. THE GIVEN ROWS OF THIS SEAT. 5 by the template 'for every input the law returns true; each argument reads behind the call as it read before'; 0 by the template 'total and deterministic' (their statements: YtnmojlolgioijaaDoorTotals.lean).
  GIVEN WITH THE SEED: the statements are not yours to turn. If you find one false, say at which input.
  Laid BY PROGRAM, IN A SANDBOX (cutbox-rows.mjs): the forced cells as the released guide's own fill.sh prints them over the translation 1e0dbd85ed89beeb… (all of the seat's roots in one cut). By AI agents, Wed Nov 11 2026. No macro, syntax, notation, axiom, sorry.
-/
import Derived.Test.YtnmojlolgioijaaDoorChecked
import GoSem.Claim
import GoSem.ClaimJoined
import GoSem.ClaimMapViews
import Derived.JoinedTies
import Derived.KernelRfl
namespace Go.Proofs.YtnmojlolgioijaaDoor
/- THE CELL 'sum', in the pinned program and in every row, IS THE sha256 OF THE DUMP (.gsa) THAT YtnmojlolgioijaaDoorProg.lean LOADS. Nothing in Lean hashes anything: it is a label: what it is worth is what the hold of that sum in a sandbox is worth. -/
noncomputable def Tryd.pinned : Pinned := { name := "ytnmojlolgioijaadoor", sum := "1e0dbd85ed89beeb2b434cec09ae18b495a91625373341c4d54c309574d0506d", checked := Tryd.checked }
namespace Rows
def none {H : Type} : Left H := { results := [], args := [] }

/- WHAT THE LISTED PACKAGE-LEVEL VARIABLES READ AS WHEN THE CALL BEGINS. Each datum BY PROGRAM (the guide's laid-datum.mjs) off the statement by which the dump's own 'gosem.cut.vars' lays the variable. In a bare row this is a premise. The card (YtnmojlolgioijaaDoorCards.lean) ties it to the program's text. -/
def laid_letterbox_b64_letters {H : Type} : DataW H := .agg [.lit (.int .u8 65), .lit (.int .u8 66), .lit (.int .u8 67), .lit (.int .u8 68), .lit (.int .u8 69), .lit (.int .u8 70), .lit (.int .u8 71), .lit (.int .u8 72), .lit (.int .u8 73), .lit (.int .u8 74), .lit (.int .u8 75), .lit (.int .u8 76), .lit (.int .u8 77), .lit (.int .u8 78), .lit (.int .u8 79), .lit (.int .u8 80), .lit (.int .u8 81), .lit (.int .u8 82), .lit (.int .u8 83), .lit (.int .u8 84), .lit (.int .u8 85), .lit (.int .u8 86), .lit (.int .u8 87), .lit (.int .u8 88), .lit (.int .u8 89), .lit (.int .u8 90), .lit (.int .u8 97), .lit (.int .u8 98), .lit (.int .u8 99), .lit (.int .u8 100), .lit (.int .u8 101), .lit (.int .u8 102), .lit (.int .u8 103), .lit (.int .u8 104), .lit (.int .u8 105), .lit (.int .u8 106), .lit (.int .u8 107), .lit (.int .u8 108), .lit (.int .u8 109), .lit (.int .u8 110), .lit (.int .u8 111), .lit (.int .u8 112), .lit (.int .u8 113), .lit (.int .u8 114), .lit (.int .u8 115), .lit (.int .u8 116), .lit (.int .u8 117), .lit (.int .u8 118), .lit (.int .u8 119), .lit (.int .u8 120), .lit (.int .u8 121), .lit (.int .u8 122), .lit (.int .u8 48), .lit (.int .u8 49), .lit (.int .u8 50), .lit (.int .u8 51), .lit (.int .u8 52), .lit (.int .u8 53), .lit (.int .u8 54), .lit (.int .u8 55), .lit (.int .u8 56), .lit (.int .u8 57), .lit (.int .u8 43), .lit (.int .u8 47)]

/-- 'letterboxlaw02.B64Encodes': WHATEVER THE INPUT: true; the input reads as it did. -/
def b64EncodesSpec : ChangeSpec := { name := "b64Encodes", fn := fun _ => fun
  | [d1, d2] => { results := [.lit (.bool true)], args := [d1, d2] }
  | _ => none }
def b64EncodesRow : OpenClaim := { program := "ytnmojlolgioijaadoor", sum := "1e0dbd85ed89beeb2b434cec09ae18b495a91625373341c4d54c309574d0506d", func := "letterbox/letterboxlaw02.B64Encodes", spec := "b64Encodes", unfollowed := true, recurses := true, named := ["letterbox/b64.letters"], apart := false, laid := [("letterbox/b64.letters", laid_letterbox_b64_letters)] }
def B64EncodesSaid : Prop := b64EncodesRow.holds Tryd.pinned (OpenSpec.ofChange b64EncodesSpec)

/-- ITS FALSE NEIGHBOUR: 'it returns false'. Refute it at one input. -/
def b64EncodesWrong : ChangeSpec := { name := "b64Encodes", fn := fun _ => fun
  | [d1, d2] => { results := [.lit (.bool false)], args := [d1, d2] }
  | _ => none }
def B64EncodesWrongFalsely : Prop := b64EncodesRow.holds Tryd.pinned (OpenSpec.ofChange b64EncodesWrong)

/-- 'letterboxlaw02.B64Decodes': WHATEVER THE INPUT: true; the input reads as it did. -/
def b64DecodesSpec : ChangeSpec := { name := "b64Decodes", fn := fun _ => fun
  | [d] => { results := [.lit (.bool true)], args := [d] }
  | _ => none }
def b64DecodesRow : OpenClaim := { program := "ytnmojlolgioijaadoor", sum := "1e0dbd85ed89beeb2b434cec09ae18b495a91625373341c4d54c309574d0506d", func := "letterbox/letterboxlaw02.B64Decodes", spec := "b64Decodes", unfollowed := true, recurses := true, named := ["letterbox/b64.letters"], apart := false, laid := [("letterbox/b64.letters", laid_letterbox_b64_letters)] }
def B64DecodesSaid : Prop := b64DecodesRow.holds Tryd.pinned (OpenSpec.ofChange b64DecodesSpec)

/-- ITS FALSE NEIGHBOUR: 'it returns false'. Refute it at one input. -/
def b64DecodesWrong : ChangeSpec := { name := "b64Decodes", fn := fun _ => fun
  | [d] => { results := [.lit (.bool false)], args := [d] }
  | _ => none }
def B64DecodesWrongFalsely : Prop := b64DecodesRow.holds Tryd.pinned (OpenSpec.ofChange b64DecodesWrong)

/-- 'letterboxlaw02.B64Back': WHATEVER THE INPUT: true; the input reads as it did. -/
def b64BackSpec : ChangeSpec := { name := "b64Back", fn := fun _ => fun
  | [d1, d2, d3] => { results := [.lit (.bool true)], args := [d1, d2, d3] }
  | _ => none }
def b64BackRow : OpenClaim := { program := "ytnmojlolgioijaadoor", sum := "1e0dbd85ed89beeb2b434cec09ae18b495a91625373341c4d54c309574d0506d", func := "letterbox/letterboxlaw02.B64Back", spec := "b64Back", unfollowed := true, recurses := true, named := ["letterbox/b64.letters"], apart := false, laid := [("letterbox/b64.letters", laid_letterbox_b64_letters)] }
def B64BackSaid : Prop := b64BackRow.holds Tryd.pinned (OpenSpec.ofChange b64BackSpec)

/-- ITS FALSE NEIGHBOUR: 'it returns false'. Refute it at one input. -/
def b64BackWrong : ChangeSpec := { name := "b64Back", fn := fun _ => fun
  | [d1, d2, d3] => { results := [.lit (.bool false)], args := [d1, d2, d3] }
  | _ => none }
def B64BackWrongFalsely : Prop := b64BackRow.holds Tryd.pinned (OpenSpec.ofChange b64BackWrong)

/-- 'letterboxlaw02.B64Spoiled': WHATEVER THE INPUT: true; the input reads as it did. -/
def b64SpoiledSpec : ChangeSpec := { name := "b64Spoiled", fn := fun _ => fun
  | [d1, d2, d3, d4] => { results := [.lit (.bool true)], args := [d1, d2, d3, d4] }
  | _ => none }
def b64SpoiledRow : OpenClaim := { program := "ytnmojlolgioijaadoor", sum := "1e0dbd85ed89beeb2b434cec09ae18b495a91625373341c4d54c309574d0506d", func := "letterbox/letterboxlaw02.B64Spoiled", spec := "b64Spoiled", unfollowed := true, recurses := true, named := ["letterbox/b64.letters"], apart := false, laid := [("letterbox/b64.letters", laid_letterbox_b64_letters)] }
def B64SpoiledSaid : Prop := b64SpoiledRow.holds Tryd.pinned (OpenSpec.ofChange b64SpoiledSpec)

/-- ITS FALSE NEIGHBOUR: 'it returns false'. Refute it at one input. -/
def b64SpoiledWrong : ChangeSpec := { name := "b64Spoiled", fn := fun _ => fun
  | [d1, d2, d3, d4] => { results := [.lit (.bool false)], args := [d1, d2, d3, d4] }
  | _ => none }
def B64SpoiledWrongFalsely : Prop := b64SpoiledRow.holds Tryd.pinned (OpenSpec.ofChange b64SpoiledWrong)

/-- 'letterboxlaw02.B64Long': WHATEVER THE INPUT: true; the input reads as it did. -/
def b64LongSpec : ChangeSpec := { name := "b64Long", fn := fun _ => fun
  | [d1, d2] => { results := [.lit (.bool true)], args := [d1, d2] }
  | _ => none }
def b64LongRow : OpenClaim := { program := "ytnmojlolgioijaadoor", sum := "1e0dbd85ed89beeb2b434cec09ae18b495a91625373341c4d54c309574d0506d", func := "letterbox/letterboxlaw02.B64Long", spec := "b64Long", unfollowed := true, recurses := true, named := ["letterbox/b64.letters"], apart := false, laid := [("letterbox/b64.letters", laid_letterbox_b64_letters)] }
def B64LongSaid : Prop := b64LongRow.holds Tryd.pinned (OpenSpec.ofChange b64LongSpec)

/-- ITS FALSE NEIGHBOUR: 'it returns false'. Refute it at one input. -/
def b64LongWrong : ChangeSpec := { name := "b64Long", fn := fun _ => fun
  | [d1, d2] => { results := [.lit (.bool false)], args := [d1, d2] }
  | _ => none }
def B64LongWrongFalsely : Prop := b64LongRow.holds Tryd.pinned (OpenSpec.ofChange b64LongWrong)

/- THE SECOND FORM. 'bulk': how many values and letters a reading holds, each counted each time it is reached (what is shared counts as often as it is met; a slice's spare places count too). A statement '..UptoSaid' is the law's where the arguments, and the package variables that the reading takes, are together of bulk at most 1048576: NARROWER than '..Said'. Prove '..Said' where nothing that the law and all that it calls make is longer than what came in: it says more and counts as full. Else prove '..UptoSaid'. A law counts once. -/
mutual
def uptoBulk {H : Type} : DataW H → Nat
  | .lit (.string bytes) => bytes.length + 1
  | .lit _ => 1
  | .nil => 1
  | .ptr d => uptoBulk d + 1
  | .slice elems spare => uptoBulkAll elems + uptoBulkAll spare + 1
  | .agg parts => uptoBulkAll parts + 1
  | .iface _ d => uptoBulk d + 1
  | .map entries => uptoBulkEntries entries + 1
  | .held _ => 1
def uptoBulkAll {H : Type} : List (DataW H) → Nat
  | [] => 0
  | d :: r => uptoBulk d + uptoBulkAll r
def uptoBulkEntries {H : Type} : List (Lit × DataW H) → Nat
  | [] => 0
  | x :: r => uptoBulkEntry x + uptoBulkEntries r
def uptoBulkEntry {H : Type} : Lit × DataW H → Nat
  | (.string bytes, d) => bytes.length + uptoBulk d + 1
  | (_, d) => uptoBulk d + 1
 end
def uptoSmall : (H : Type) → List (DataW H) → Bool := fun _ ds => decide (uptoBulkAll ds ≤ 1048576)
def OpenSpec.upto (s : _root_.Go.ChangeSpec) : _root_.Go.OpenSpec := { _root_.Go.OpenSpec.ofChange s with cond := some uptoSmall }

/-- 'letterboxlaw02.B64Encodes', WHERE WHAT IT READS IS OF BULK AT MOST 1048576: true; the input reads as it did. -/
def b64EncodesUptoRow : OpenClaim := { program := "ytnmojlolgioijaadoor", sum := "1e0dbd85ed89beeb2b434cec09ae18b495a91625373341c4d54c309574d0506d", func := "letterbox/letterboxlaw02.B64Encodes", spec := "b64Encodes", unfollowed := true, recurses := true, named := ["letterbox/b64.letters"], apart := false, laid := [("letterbox/b64.letters", laid_letterbox_b64_letters)], narrowed := true }
def B64EncodesUptoSaid : Prop := b64EncodesUptoRow.holds Tryd.pinned (OpenSpec.upto b64EncodesSpec)

/-- 'letterboxlaw02.B64Decodes', WHERE WHAT IT READS IS OF BULK AT MOST 1048576: true; the input reads as it did. -/
def b64DecodesUptoRow : OpenClaim := { program := "ytnmojlolgioijaadoor", sum := "1e0dbd85ed89beeb2b434cec09ae18b495a91625373341c4d54c309574d0506d", func := "letterbox/letterboxlaw02.B64Decodes", spec := "b64Decodes", unfollowed := true, recurses := true, named := ["letterbox/b64.letters"], apart := false, laid := [("letterbox/b64.letters", laid_letterbox_b64_letters)], narrowed := true }
def B64DecodesUptoSaid : Prop := b64DecodesUptoRow.holds Tryd.pinned (OpenSpec.upto b64DecodesSpec)

/-- 'letterboxlaw02.B64Back', WHERE WHAT IT READS IS OF BULK AT MOST 1048576: true; the input reads as it did. -/
def b64BackUptoRow : OpenClaim := { program := "ytnmojlolgioijaadoor", sum := "1e0dbd85ed89beeb2b434cec09ae18b495a91625373341c4d54c309574d0506d", func := "letterbox/letterboxlaw02.B64Back", spec := "b64Back", unfollowed := true, recurses := true, named := ["letterbox/b64.letters"], apart := false, laid := [("letterbox/b64.letters", laid_letterbox_b64_letters)], narrowed := true }
def B64BackUptoSaid : Prop := b64BackUptoRow.holds Tryd.pinned (OpenSpec.upto b64BackSpec)

/-- 'letterboxlaw02.B64Spoiled', WHERE WHAT IT READS IS OF BULK AT MOST 1048576: true; the input reads as it did. -/
def b64SpoiledUptoRow : OpenClaim := { program := "ytnmojlolgioijaadoor", sum := "1e0dbd85ed89beeb2b434cec09ae18b495a91625373341c4d54c309574d0506d", func := "letterbox/letterboxlaw02.B64Spoiled", spec := "b64Spoiled", unfollowed := true, recurses := true, named := ["letterbox/b64.letters"], apart := false, laid := [("letterbox/b64.letters", laid_letterbox_b64_letters)], narrowed := true }
def B64SpoiledUptoSaid : Prop := b64SpoiledUptoRow.holds Tryd.pinned (OpenSpec.upto b64SpoiledSpec)

/-- 'letterboxlaw02.B64Long', WHERE WHAT IT READS IS OF BULK AT MOST 1048576: true; the input reads as it did. -/
def b64LongUptoRow : OpenClaim := { program := "ytnmojlolgioijaadoor", sum := "1e0dbd85ed89beeb2b434cec09ae18b495a91625373341c4d54c309574d0506d", func := "letterbox/letterboxlaw02.B64Long", spec := "b64Long", unfollowed := true, recurses := true, named := ["letterbox/b64.letters"], apart := false, laid := [("letterbox/b64.letters", laid_letterbox_b64_letters)], narrowed := true }
def B64LongUptoSaid : Prop := b64LongUptoRow.holds Tryd.pinned (OpenSpec.upto b64LongSpec)

end Rows
end Go.Proofs.YtnmojlolgioijaaDoor
