/-
  DERIVED. GIVEN WITH THE SEED: THE CARDS: each row of YthalkihhkkgkiaaDoorRows.lean that lists a variable, with what it lists TIED to the program's text (the seventh form; the later family's looks); each row that meets fmt, with fmt's text TOLD by the authors' own Lean function (tested against real Go, not proved from fmt's source: count such statements apart). THE CARD IS WHAT COUNTS. Prove the row's statement (the work); the ties are given (YthalkihhkkgkiaaDoorTie.lean); close each card by the builder's one call (the guide's Derived/Test/ToyasCard.lean, 'card_holds'). Laid BY PROGRAM, IN A SANDBOX (cutbox-door.mjs). By AI agents, Wed Nov 11 2026. No macro, syntax, notation, axiom, sorry.
-/
import Derived.Test.YthalkihhkkgkiaaDoorRows
import GoSem.ClaimSeven
namespace Go.Proofs.YthalkihhkkgkiaaDoor
namespace Rows

/-- THE TIED CARD OF 'vendmeterkeep.PadPlain'. -/
def padPlainCard : Claim7 := { stood := { row := padPlainRow, standIns := [], harness := (true, "190cd3ab4024c1dcaf3d92fcdd5f32a66882f1ba7bb28fcfb7ac0f94b54a052c"), looks := false }, kinds := [], alts := [], laidByText := true, laidKinds := [.data, .pinned], laidTests := true, laidLooks := .later }
def PadPlainCardSaid : Prop := Claim7.holds Tryd.pinned (.plain (OpenSpec.ofChange padPlainSpec)) padPlainCard

/-- THE TIED CARD OF 'vendmeterkeep.PadScripts'. -/
def padScriptsCard : Claim7 := { stood := { row := padScriptsRow, standIns := [], harness := (true, "190cd3ab4024c1dcaf3d92fcdd5f32a66882f1ba7bb28fcfb7ac0f94b54a052c"), looks := false }, kinds := [], alts := [], laidByText := true, laidKinds := [.data, .pinned], laidTests := true, laidLooks := .later }
def PadScriptsCardSaid : Prop := Claim7.holds Tryd.pinned (.plain (OpenSpec.ofChange padScriptsSpec)) padScriptsCard

/-- THE TIED CARD OF 'vendmeterkeep.PadUndo'. -/
def padUndoCard : Claim7 := { stood := { row := padUndoRow, standIns := [], harness := (true, "190cd3ab4024c1dcaf3d92fcdd5f32a66882f1ba7bb28fcfb7ac0f94b54a052c"), looks := false }, kinds := [], alts := [], laidByText := true, laidKinds := [.data, .pinned], laidTests := true, laidLooks := .later }
def PadUndoCardSaid : Prop := Claim7.holds Tryd.pinned (.plain (OpenSpec.ofChange padUndoSpec)) padUndoCard

/-- THE TIED CARD OF 'vendmeterkeep.PadPieces'. -/
def padPiecesCard : Claim7 := { stood := { row := padPiecesRow, standIns := [], harness := (true, "190cd3ab4024c1dcaf3d92fcdd5f32a66882f1ba7bb28fcfb7ac0f94b54a052c"), looks := false }, kinds := [], alts := [], laidByText := true, laidKinds := [.data, .pinned], laidTests := true, laidLooks := .later }
def PadPiecesCardSaid : Prop := Claim7.holds Tryd.pinned (.plain (OpenSpec.ofChange padPiecesSpec)) padPiecesCard

/-- THE SECOND FORM's CARD OF 'vendmeterkeep.PadPlain'. -/
def padPlainUptoCard : Claim7 := { stood := { row := padPlainUptoRow, standIns := [], harness := (true, "190cd3ab4024c1dcaf3d92fcdd5f32a66882f1ba7bb28fcfb7ac0f94b54a052c"), looks := false }, kinds := [], alts := [], laidByText := true, laidKinds := [.data, .pinned], laidTests := true, laidLooks := .later }
def PadPlainUptoCardSaid : Prop := Claim7.holds Tryd.pinned (.plain (OpenSpec.upto padPlainSpec)) padPlainUptoCard

/-- THE SECOND FORM's CARD OF 'vendmeterkeep.PadScripts'. -/
def padScriptsUptoCard : Claim7 := { stood := { row := padScriptsUptoRow, standIns := [], harness := (true, "190cd3ab4024c1dcaf3d92fcdd5f32a66882f1ba7bb28fcfb7ac0f94b54a052c"), looks := false }, kinds := [], alts := [], laidByText := true, laidKinds := [.data, .pinned], laidTests := true, laidLooks := .later }
def PadScriptsUptoCardSaid : Prop := Claim7.holds Tryd.pinned (.plain (OpenSpec.upto padScriptsSpec)) padScriptsUptoCard

/-- THE SECOND FORM's CARD OF 'vendmeterkeep.PadUndo'. -/
def padUndoUptoCard : Claim7 := { stood := { row := padUndoUptoRow, standIns := [], harness := (true, "190cd3ab4024c1dcaf3d92fcdd5f32a66882f1ba7bb28fcfb7ac0f94b54a052c"), looks := false }, kinds := [], alts := [], laidByText := true, laidKinds := [.data, .pinned], laidTests := true, laidLooks := .later }
def PadUndoUptoCardSaid : Prop := Claim7.holds Tryd.pinned (.plain (OpenSpec.upto padUndoSpec)) padUndoUptoCard

/-- THE SECOND FORM's CARD OF 'vendmeterkeep.PadPieces'. -/
def padPiecesUptoCard : Claim7 := { stood := { row := padPiecesUptoRow, standIns := [], harness := (true, "190cd3ab4024c1dcaf3d92fcdd5f32a66882f1ba7bb28fcfb7ac0f94b54a052c"), looks := false }, kinds := [], alts := [], laidByText := true, laidKinds := [.data, .pinned], laidTests := true, laidLooks := .later }
def PadPiecesUptoCardSaid : Prop := Claim7.holds Tryd.pinned (.plain (OpenSpec.upto padPiecesSpec)) padPiecesUptoCard
end Rows
end Go.Proofs.YthalkihhkkgkiaaDoor
