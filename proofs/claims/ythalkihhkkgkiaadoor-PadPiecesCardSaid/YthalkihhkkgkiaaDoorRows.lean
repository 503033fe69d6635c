/-
  NARROWER THAN 'FOR EVERY INPUT', by the rows' own cells (each row's printed sentence says how): PadPlain: laid · PadScripts: laid · PadUndo: laid · PadPieces: laid.
  DERIVED. THE GIVEN ROWS OF THIS SEAT. 4 by the template 'for every input the law returns true; each argument reads behind the call as it read before'; 0 by the template 'total and deterministic' (their statements: YthalkihhkkgkiaaDoorTotals.lean).
  GIVEN WITH THE SEED: the statements are not yours to turn. If you find one false, say at which input.
  Laid BY PROGRAM, IN A SANDBOX (cutbox-rows.mjs): the forced cells as the released guide's own fill.sh prints them over the translation 7d69f32a74fabb25… (all of the seat's roots in one cut). By AI agents, Wed Nov 11 2026. No macro, syntax, notation, axiom, sorry.
-/
import Derived.Test.YthalkihhkkgkiaaDoorChecked
import GoSem.PinnedTables
import GoSem.Claim
import GoSem.ClaimJoined
import GoSem.ClaimMapViews
import Derived.JoinedTies
import Derived.KernelRfl
namespace Go.Proofs.YthalkihhkkgkiaaDoor
/- THE CELL 'sum', in the pinned program and in every row, IS THE sha256 OF THE DUMP (.gsa) THAT YthalkihhkkgkiaaDoorProg.lean LOADS. Nothing in Lean hashes anything: it is a label: what it is worth is what the hold of that sum in a sandbox is worth. -/
noncomputable def Tryd.pinned : Pinned := { name := "ythalkihhkkgkiaadoor", sum := "7d69f32a74fabb2521f258b24806d70dbae902be56d98bc16082cecdd0b9f304", checked := Tryd.checked }
namespace Rows
def none {H : Type} : Left H := { results := [], args := [] }

/- WHAT THE LISTED PACKAGE-LEVEL VARIABLES READ AS WHEN THE CALL BEGINS. Each datum BY PROGRAM (the guide's laid-datum.mjs) off the statement by which the dump's own 'gosem.cut.vars' lays the variable. In a bare row this is a premise. The card (YthalkihhkkgkiaaDoorCards.lean) ties it to the program's text. -/
def laid_unicode_utf8_acceptRanges {H : Type} : DataW H := .agg [.agg [.lit (.int .u8 128), .lit (.int .u8 191)], .agg [.lit (.int .u8 160), .lit (.int .u8 191)], .agg [.lit (.int .u8 128), .lit (.int .u8 159)], .agg [.lit (.int .u8 144), .lit (.int .u8 191)], .agg [.lit (.int .u8 128), .lit (.int .u8 143)], .agg [.lit (.int .u8 0), .lit (.int .u8 0)], .agg [.lit (.int .u8 0), .lit (.int .u8 0)], .agg [.lit (.int .u8 0), .lit (.int .u8 0)], .agg [.lit (.int .u8 0), .lit (.int .u8 0)], .agg [.lit (.int .u8 0), .lit (.int .u8 0)], .agg [.lit (.int .u8 0), .lit (.int .u8 0)], .agg [.lit (.int .u8 0), .lit (.int .u8 0)], .agg [.lit (.int .u8 0), .lit (.int .u8 0)], .agg [.lit (.int .u8 0), .lit (.int .u8 0)], .agg [.lit (.int .u8 0), .lit (.int .u8 0)], .agg [.lit (.int .u8 0), .lit (.int .u8 0)]]
/-- One of Go's own tables, pinned by name: the form's constant. -/
def laid_unicode_utf8_first : DataW Unit := Go.Pinned.utf8First

/-- 'vendmeterkeep.PadPlain': WHATEVER THE INPUT: true; the input reads as it did. -/
def padPlainSpec : ChangeSpec := { name := "padPlain", fn := fun _ => fun
  | [d] => { results := [.lit (.bool true)], args := [d] }
  | _ => none }
def padPlainRow : OpenClaim := { program := "ythalkihhkkgkiaadoor", sum := "7d69f32a74fabb2521f258b24806d70dbae902be56d98bc16082cecdd0b9f304", func := "vendmeter/vendmeterkeep.PadPlain", spec := "padPlain", named := ["unicode/utf8.first", "unicode/utf8.acceptRanges"], apart := false, laid := [("unicode/utf8.acceptRanges", laid_unicode_utf8_acceptRanges), ("unicode/utf8.first", laid_unicode_utf8_first)] }
def PadPlainSaid : Prop := padPlainRow.holds Tryd.pinned (OpenSpec.ofChange padPlainSpec)

/-- ITS FALSE NEIGHBOUR: 'it returns false'. Refute it at one input. -/
def padPlainWrong : ChangeSpec := { name := "padPlain", fn := fun _ => fun
  | [d] => { results := [.lit (.bool false)], args := [d] }
  | _ => none }
def PadPlainWrongFalsely : Prop := padPlainRow.holds Tryd.pinned (OpenSpec.ofChange padPlainWrong)

/-- 'vendmeterkeep.PadScripts': WHATEVER THE INPUT: true; the input reads as it did. -/
def padScriptsSpec : ChangeSpec := { name := "padScripts", fn := fun _ => fun
  | [d1, d2] => { results := [.lit (.bool true)], args := [d1, d2] }
  | _ => none }
def padScriptsRow : OpenClaim := { program := "ythalkihhkkgkiaadoor", sum := "7d69f32a74fabb2521f258b24806d70dbae902be56d98bc16082cecdd0b9f304", func := "vendmeter/vendmeterkeep.PadScripts", spec := "padScripts", named := ["unicode/utf8.first", "unicode/utf8.acceptRanges"], apart := false, laid := [("unicode/utf8.acceptRanges", laid_unicode_utf8_acceptRanges), ("unicode/utf8.first", laid_unicode_utf8_first)] }
def PadScriptsSaid : Prop := padScriptsRow.holds Tryd.pinned (OpenSpec.ofChange padScriptsSpec)

/-- ITS FALSE NEIGHBOUR: 'it returns false'. Refute it at one input. -/
def padScriptsWrong : ChangeSpec := { name := "padScripts", fn := fun _ => fun
  | [d1, d2] => { results := [.lit (.bool false)], args := [d1, d2] }
  | _ => none }
def PadScriptsWrongFalsely : Prop := padScriptsRow.holds Tryd.pinned (OpenSpec.ofChange padScriptsWrong)

/-- 'vendmeterkeep.PadUndo': WHATEVER THE INPUT: true; the input reads as it did. -/
def padUndoSpec : ChangeSpec := { name := "padUndo", fn := fun _ => fun
  | [d1, d2, d3, d4, d5] => { results := [.lit (.bool true)], args := [d1, d2, d3, d4, d5] }
  | _ => none }
def padUndoRow : OpenClaim := { program := "ythalkihhkkgkiaadoor", sum := "7d69f32a74fabb2521f258b24806d70dbae902be56d98bc16082cecdd0b9f304", func := "vendmeter/vendmeterkeep.PadUndo", spec := "padUndo", named := ["unicode/utf8.first", "unicode/utf8.acceptRanges"], apart := false, laid := [("unicode/utf8.acceptRanges", laid_unicode_utf8_acceptRanges), ("unicode/utf8.first", laid_unicode_utf8_first)] }
def PadUndoSaid : Prop := padUndoRow.holds Tryd.pinned (OpenSpec.ofChange padUndoSpec)

/-- ITS FALSE NEIGHBOUR: 'it returns false'. Refute it at one input. -/
def padUndoWrong : ChangeSpec := { name := "padUndo", fn := fun _ => fun
  | [d1, d2, d3, d4, d5] => { results := [.lit (.bool false)], args := [d1, d2, d3, d4, d5] }
  | _ => none }
def PadUndoWrongFalsely : Prop := padUndoRow.holds Tryd.pinned (OpenSpec.ofChange padUndoWrong)

/-- 'vendmeterkeep.PadPieces': WHATEVER THE INPUT: true; the input reads as it did. -/
def padPiecesSpec : ChangeSpec := { name := "padPieces", fn := fun _ => fun
  | [d1, d2] => { results := [.lit (.bool true)], args := [d1, d2] }
  | _ => none }
def padPiecesRow : OpenClaim := { program := "ythalkihhkkgkiaadoor", sum := "7d69f32a74fabb2521f258b24806d70dbae902be56d98bc16082cecdd0b9f304", func := "vendmeter/vendmeterkeep.PadPieces", spec := "padPieces", named := ["unicode/utf8.first", "unicode/utf8.acceptRanges"], apart := false, laid := [("unicode/utf8.acceptRanges", laid_unicode_utf8_acceptRanges), ("unicode/utf8.first", laid_unicode_utf8_first)] }
def PadPiecesSaid : Prop := padPiecesRow.holds Tryd.pinned (OpenSpec.ofChange padPiecesSpec)

/-- ITS FALSE NEIGHBOUR: 'it returns false'. Refute it at one input. -/
def padPiecesWrong : ChangeSpec := { name := "padPieces", fn := fun _ => fun
  | [d1, d2] => { results := [.lit (.bool false)], args := [d1, d2] }
  | _ => none }
def PadPiecesWrongFalsely : Prop := padPiecesRow.holds Tryd.pinned (OpenSpec.ofChange padPiecesWrong)

/- THE SECOND FORM. 'bulk': how many values and letters a reading holds, each counted each time it is reached (what is shared counts as often as it is met; a slice's spare places count too). A statement '..UptoSaid' is the law's where the arguments, and the package variables that the reading takes, are together of bulk at most 1048576: NARROWER than '..Said'. Prove '..Said' where nothing that the law and all that it calls make is longer than what came in: it says more and counts as full. Else prove '..UptoSaid'. A law counts once. -/
mutual
def uptoBulk {H : Type} : DataW H → Nat
  | .lit (.string bytes) => bytes.length + 1
  | .lit _ => 1
  | .nil => 1
  | .ptr d => uptoBulk d + 1
  | .slice elems spare => uptoBulkAll elems + uptoBulkAll spare + 1
  | .agg parts => uptoBulkAll parts + 1
  | .iface _ d => uptoBulk d + 1
  | .map entries => uptoBulkEntries entries + 1
  | .held _ => 1
def uptoBulkAll {H : Type} : List (DataW H) → Nat
  | [] => 0
  | d :: r => uptoBulk d + uptoBulkAll r
def uptoBulkEntries {H : Type} : List (Lit × DataW H) → Nat
  | [] => 0
  | x :: r => uptoBulkEntry x + uptoBulkEntries r
def uptoBulkEntry {H : Type} : Lit × DataW H → Nat
  | (.string bytes, d) => bytes.length + uptoBulk d + 1
  | (_, d) => uptoBulk d + 1
 end
def uptoSmall : (H : Type) → List (DataW H) → Bool := fun _ ds => decide (uptoBulkAll ds ≤ 1048576)
def OpenSpec.upto (s : _root_.Go.ChangeSpec) : _root_.Go.OpenSpec := { _root_.Go.OpenSpec.ofChange s with cond := some uptoSmall }

/-- 'vendmeterkeep.PadPlain', WHERE WHAT IT READS IS OF BULK AT MOST 1048576: true; the input reads as it did. -/
def padPlainUptoRow : OpenClaim := { program := "ythalkihhkkgkiaadoor", sum := "7d69f32a74fabb2521f258b24806d70dbae902be56d98bc16082cecdd0b9f304", func := "vendmeter/vendmeterkeep.PadPlain", spec := "padPlain", named := ["unicode/utf8.first", "unicode/utf8.acceptRanges"], apart := false, laid := [("unicode/utf8.acceptRanges", laid_unicode_utf8_acceptRanges), ("unicode/utf8.first", laid_unicode_utf8_first)], narrowed := true }
def PadPlainUptoSaid : Prop := padPlainUptoRow.holds Tryd.pinned (OpenSpec.upto padPlainSpec)

/-- 'vendmeterkeep.PadScripts', WHERE WHAT IT READS IS OF BULK AT MOST 1048576: true; the input reads as it did. -/
def padScriptsUptoRow : OpenClaim := { program := "ythalkihhkkgkiaadoor", sum := "7d69f32a74fabb2521f258b24806d70dbae902be56d98bc16082cecdd0b9f304", func := "vendmeter/vendmeterkeep.PadScripts", spec := "padScripts", named := ["unicode/utf8.first", "unicode/utf8.acceptRanges"], apart := false, laid := [("unicode/utf8.acceptRanges", laid_unicode_utf8_acceptRanges), ("unicode/utf8.first", laid_unicode_utf8_first)], narrowed := true }
def PadScriptsUptoSaid : Prop := padScriptsUptoRow.holds Tryd.pinned (OpenSpec.upto padScriptsSpec)

/-- 'vendmeterkeep.PadUndo', WHERE WHAT IT READS IS OF BULK AT MOST 1048576: true; the input reads as it did. -/
def padUndoUptoRow : OpenClaim := { program := "ythalkihhkkgkiaadoor", sum := "7d69f32a74fabb2521f258b24806d70dbae902be56d98bc16082cecdd0b9f304", func := "vendmeter/vendmeterkeep.PadUndo", spec := "padUndo", named := ["unicode/utf8.first", "unicode/utf8.acceptRanges"], apart := false, laid := [("unicode/utf8.acceptRanges", laid_unicode_utf8_acceptRanges), ("unicode/utf8.first", laid_unicode_utf8_first)], narrowed := true }
def PadUndoUptoSaid : Prop := padUndoUptoRow.holds Tryd.pinned (OpenSpec.upto padUndoSpec)

/-- 'vendmeterkeep.PadPieces', WHERE WHAT IT READS IS OF BULK AT MOST 1048576: true; the input reads as it did. -/
def padPiecesUptoRow : OpenClaim := { program := "ythalkihhkkgkiaadoor", sum := "7d69f32a74fabb2521f258b24806d70dbae902be56d98bc16082cecdd0b9f304", func := "vendmeter/vendmeterkeep.PadPieces", spec := "padPieces", named := ["unicode/utf8.first", "unicode/utf8.acceptRanges"], apart := false, laid := [("unicode/utf8.acceptRanges", laid_unicode_utf8_acceptRanges), ("unicode/utf8.first", laid_unicode_utf8_first)], narrowed := true }
def PadPiecesUptoSaid : Prop := padPiecesUptoRow.holds Tryd.pinned (OpenSpec.upto padPiecesSpec)

end Rows
end Go.Proofs.YthalkihhkkgkiaaDoor
