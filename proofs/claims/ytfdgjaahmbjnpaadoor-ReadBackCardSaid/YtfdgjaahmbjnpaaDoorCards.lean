/-
  DERIVED. GIVEN WITH THE SEED: THE CARDS: each row of YtfdgjaahmbjnpaaDoorRows.lean that lists a variable, with what it lists TIED to the program's text (the seventh form; the later family's looks); each row that meets fmt, with fmt's text TOLD by the authors' own Lean function (tested against real Go, not proved from fmt's source: count such statements apart). THE CARD IS WHAT COUNTS. Prove the row's statement (the work); the ties are given (YtfdgjaahmbjnpaaDoorTie.lean); close each card by the builder's one call (the guide's Derived/Test/ToyasCard.lean, 'card_holds'). Laid BY PROGRAM, IN A SANDBOX (cutbox-door.mjs). By AI agents, Wed Nov 11 2026. No macro, syntax, notation, axiom, sorry.
-/
import Derived.Test.YtfdgjaahmbjnpaaDoorRows
import GoSem.ClaimSeven
namespace Go.Proofs.YtfdgjaahmbjnpaaDoor
namespace Rows

/-- THE TIED CARD OF 'vendmeterkeep.ShowBack'. -/
def showBackCard : Claim7 := { stood := { row := showBackRow, standIns := [], harness := (true, "022c7433d561517e336e86ed27da7e4ace138306e7820a9df7245bf5c6adf62a"), looks := true }, kinds := [], alts := [], laidByText := true, laidKinds := [.data, .data, .data], laidTests := true, laidLooks := .later }
def ShowBackCardSaid : Prop := Claim7.holds Tryd.pinned (.plain (OpenSpec.ofChange showBackSpec)) showBackCard

/-- THE TIED CARD OF 'vendmeterkeep.ReadBack'. -/
def readBackCard : Claim7 := { stood := { row := readBackRow, standIns := [], harness := (true, "022c7433d561517e336e86ed27da7e4ace138306e7820a9df7245bf5c6adf62a"), looks := true }, kinds := [], alts := [], laidByText := true, laidKinds := [.data, .data, .data], laidTests := true, laidLooks := .later }
def ReadBackCardSaid : Prop := Claim7.holds Tryd.pinned (.plain (OpenSpec.ofChange readBackSpec)) readBackCard

/-- THE TIED CARD OF 'vendmeterkeep.NumberSlip'. -/
def numberSlipCard : Claim7 := { stood := { row := numberSlipRow, standIns := [], harness := (true, "022c7433d561517e336e86ed27da7e4ace138306e7820a9df7245bf5c6adf62a"), looks := true }, kinds := [], alts := [], laidByText := true, laidKinds := [.data, .data, .data, .sentinel, .sentinel], laidTests := true, laidLooks := .later }
def NumberSlipCardSaid : Prop := Claim7.holds Tryd.pinned (.plain (OpenSpec.ofChange numberSlipSpec)) numberSlipCard

/-- THE TIED CARD OF 'vendmeterkeep.TokenBack'. -/
def tokenBackCard : Claim7 := { stood := { row := tokenBackRow, standIns := [], harness := (true, "022c7433d561517e336e86ed27da7e4ace138306e7820a9df7245bf5c6adf62a"), looks := true }, kinds := [], alts := [], laidByText := true, laidKinds := [.data, .pinned], laidTests := true, laidLooks := .later }
def TokenBackCardSaid : Prop := Claim7.holds Tryd.pinned (.plain (OpenSpec.ofChange tokenBackSpec)) tokenBackCard

/-- THE TIED CARD OF 'vendmeterkeep.TokenFixed'. -/
def tokenFixedCard : Claim7 := { stood := { row := tokenFixedRow, standIns := [], harness := (true, "022c7433d561517e336e86ed27da7e4ace138306e7820a9df7245bf5c6adf62a"), looks := true }, kinds := [], alts := [], laidByText := true, laidKinds := [.data, .pinned], laidTests := true, laidLooks := .later }
def TokenFixedCardSaid : Prop := Claim7.holds Tryd.pinned (.plain (OpenSpec.ofChange tokenFixedSpec)) tokenFixedCard

/-- THE TIED CARD OF 'vendmeterkeep.TokenSlip'. -/
def tokenSlipCard : Claim7 := { stood := { row := tokenSlipRow, standIns := [], harness := (true, "022c7433d561517e336e86ed27da7e4ace138306e7820a9df7245bf5c6adf62a"), looks := true }, kinds := [], alts := [], laidByText := true, laidKinds := [.data, .pinned], laidTests := true, laidLooks := .later }
def TokenSlipCardSaid : Prop := Claim7.holds Tryd.pinned (.plain (OpenSpec.ofChange tokenSlipSpec)) tokenSlipCard

/-- THE SECOND FORM's CARD OF 'vendmeterkeep.ShowBack'. -/
def showBackUptoCard : Claim7 := { stood := { row := showBackUptoRow, standIns := [], harness := (true, "022c7433d561517e336e86ed27da7e4ace138306e7820a9df7245bf5c6adf62a"), looks := true }, kinds := [], alts := [], laidByText := true, laidKinds := [.data, .data, .data], laidTests := true, laidLooks := .later }
def ShowBackUptoCardSaid : Prop := Claim7.holds Tryd.pinned (.plain (OpenSpec.upto showBackSpec)) showBackUptoCard

/-- THE SECOND FORM's CARD OF 'vendmeterkeep.ReadBack'. -/
def readBackUptoCard : Claim7 := { stood := { row := readBackUptoRow, standIns := [], harness := (true, "022c7433d561517e336e86ed27da7e4ace138306e7820a9df7245bf5c6adf62a"), looks := true }, kinds := [], alts := [], laidByText := true, laidKinds := [.data, .data, .data], laidTests := true, laidLooks := .later }
def ReadBackUptoCardSaid : Prop := Claim7.holds Tryd.pinned (.plain (OpenSpec.upto readBackSpec)) readBackUptoCard

/-- THE SECOND FORM's CARD OF 'vendmeterkeep.NumberSlip'. -/
def numberSlipUptoCard : Claim7 := { stood := { row := numberSlipUptoRow, standIns := [], harness := (true, "022c7433d561517e336e86ed27da7e4ace138306e7820a9df7245bf5c6adf62a"), looks := true }, kinds := [], alts := [], laidByText := true, laidKinds := [.data, .data, .data, .sentinel, .sentinel], laidTests := true, laidLooks := .later }
def NumberSlipUptoCardSaid : Prop := Claim7.holds Tryd.pinned (.plain (OpenSpec.upto numberSlipSpec)) numberSlipUptoCard

/-- THE SECOND FORM's CARD OF 'vendmeterkeep.TokenBack'. -/
def tokenBackUptoCard : Claim7 := { stood := { row := tokenBackUptoRow, standIns := [], harness := (true, "022c7433d561517e336e86ed27da7e4ace138306e7820a9df7245bf5c6adf62a"), looks := true }, kinds := [], alts := [], laidByText := true, laidKinds := [.data, .pinned], laidTests := true, laidLooks := .later }
def TokenBackUptoCardSaid : Prop := Claim7.holds Tryd.pinned (.plain (OpenSpec.upto tokenBackSpec)) tokenBackUptoCard

/-- THE SECOND FORM's CARD OF 'vendmeterkeep.TokenFixed'. -/
def tokenFixedUptoCard : Claim7 := { stood := { row := tokenFixedUptoRow, standIns := [], harness := (true, "022c7433d561517e336e86ed27da7e4ace138306e7820a9df7245bf5c6adf62a"), looks := true }, kinds := [], alts := [], laidByText := true, laidKinds := [.data, .pinned], laidTests := true, laidLooks := .later }
def TokenFixedUptoCardSaid : Prop := Claim7.holds Tryd.pinned (.plain (OpenSpec.upto tokenFixedSpec)) tokenFixedUptoCard

/-- THE SECOND FORM's CARD OF 'vendmeterkeep.TokenSlip'. -/
def tokenSlipUptoCard : Claim7 := { stood := { row := tokenSlipUptoRow, standIns := [], harness := (true, "022c7433d561517e336e86ed27da7e4ace138306e7820a9df7245bf5c6adf62a"), looks := true }, kinds := [], alts := [], laidByText := true, laidKinds := [.data, .pinned], laidTests := true, laidLooks := .later }
def TokenSlipUptoCardSaid : Prop := Claim7.holds Tryd.pinned (.plain (OpenSpec.upto tokenSlipSpec)) tokenSlipUptoCard
end Rows
end Go.Proofs.YtfdgjaahmbjnpaaDoor
