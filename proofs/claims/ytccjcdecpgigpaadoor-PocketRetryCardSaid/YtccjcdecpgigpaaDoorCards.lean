/-
  DERIVED. GIVEN WITH THE SEED: THE CARDS: each row of YtccjcdecpgigpaaDoorRows.lean that lists a variable, with what it lists TIED to the program's text (the seventh form; the later family's looks); each row that meets fmt, with fmt's text TOLD by the authors' own Lean function (tested against real Go, not proved from fmt's source: count such statements apart). THE CARD IS WHAT COUNTS. Prove the row's statement (the work); the ties are given (YtccjcdecpgigpaaDoorTie.lean); close each card by the builder's one call (the guide's Derived/Test/ToyasCard.lean, 'card_holds'). Laid BY PROGRAM, IN A SANDBOX (cutbox-door.mjs). By AI agents, Wed Nov 11 2026. No macro, syntax, notation, axiom, sorry.
-/
import Derived.Test.YtccjcdecpgigpaaDoorRows
import GoSem.ClaimSeven
namespace Go.Proofs.YtccjcdecpgigpaaDoor
namespace Rows

/-- THE TIED CARD OF 'vendmeterkeep.TokenSwap'. -/
def tokenSwapCard : Claim7 := { stood := { row := tokenSwapRow, standIns := [], harness := (true, "6024a41f8758193fa1f2e30081f8cbdd68f139e43f4817b14dd3448c9a3740dd"), looks := true }, kinds := [], alts := [], laidByText := true, laidKinds := [.data, .pinned], laidTests := true, laidLooks := .later }
def TokenSwapCardSaid : Prop := Claim7.holds Tryd.pinned (.plain (OpenSpec.ofChange tokenSwapSpec)) tokenSwapCard

/-- THE TIED CARD OF 'vendmeterkeep.TokenTwin'. -/
def tokenTwinCard : Claim7 := { stood := { row := tokenTwinRow, standIns := [], harness := (true, "6024a41f8758193fa1f2e30081f8cbdd68f139e43f4817b14dd3448c9a3740dd"), looks := true }, kinds := [], alts := [], laidByText := true, laidKinds := [.data, .pinned], laidTests := true, laidLooks := .later }
def TokenTwinCardSaid : Prop := Claim7.holds Tryd.pinned (.plain (OpenSpec.ofChange tokenTwinSpec)) tokenTwinCard

/-- THE TIED CARD OF 'vendmeterkeep.CodeBack'. -/
def codeBackCard : Claim7 := { stood := { row := codeBackRow, standIns := [], harness := (true, "6024a41f8758193fa1f2e30081f8cbdd68f139e43f4817b14dd3448c9a3740dd"), looks := true }, kinds := [], alts := [], laidByText := true, laidKinds := [.data, .data, .data, .sentinel, .sentinel], laidTests := true, laidLooks := .later }
def CodeBackCardSaid : Prop := Claim7.holds Tryd.pinned (.plain (OpenSpec.ofChange codeBackSpec)) codeBackCard

/-- THE TIED CARD OF 'vendmeterkeep.CodeSlip'. -/
def codeSlipCard : Claim7 := { stood := { row := codeSlipRow, standIns := [], harness := (true, "6024a41f8758193fa1f2e30081f8cbdd68f139e43f4817b14dd3448c9a3740dd"), looks := true }, kinds := [], alts := [], laidByText := true, laidKinds := [.data, .data, .data, .sentinel, .sentinel], laidTests := true, laidLooks := .later }
def CodeSlipCardSaid : Prop := Claim7.holds Tryd.pinned (.plain (OpenSpec.ofChange codeSlipSpec)) codeSlipCard

/-- THE TIED CARD OF 'vendmeterkeep.PocketForged'. -/
def pocketForgedCard : Claim7 := { stood := { row := pocketForgedRow, standIns := [], harness := (true, "6024a41f8758193fa1f2e30081f8cbdd68f139e43f4817b14dd3448c9a3740dd"), looks := true }, kinds := [], alts := [], laidByText := true, laidKinds := [.data, .pinned], laidTests := true, laidLooks := .later }
def PocketForgedCardSaid : Prop := Claim7.holds Tryd.pinned (.plain (OpenSpec.ofChange pocketForgedSpec)) pocketForgedCard

/-- THE TIED CARD OF 'vendmeterkeep.OrderBack'. -/
def orderBackCard : Claim7 := { stood := { row := orderBackRow, standIns := [], harness := (true, "6024a41f8758193fa1f2e30081f8cbdd68f139e43f4817b14dd3448c9a3740dd"), looks := true }, kinds := [], alts := [], laidByText := true, laidKinds := [.data, .data, .data, .sentinel, .sentinel, .widerDeep], laidTests := true, laidLooks := .later }
def OrderBackCardSaid : Prop := Claim7.holds Tryd.pinned (.plain (OpenSpec.ofChange orderBackSpec)) orderBackCard

/-- THE TIED CARD OF 'vendmeterkeep.OrderFixed'. -/
def orderFixedCard : Claim7 := { stood := { row := orderFixedRow, standIns := [], harness := (true, "6024a41f8758193fa1f2e30081f8cbdd68f139e43f4817b14dd3448c9a3740dd"), looks := true }, kinds := [], alts := [], laidByText := true, laidKinds := [.data, .data, .data, .sentinel, .sentinel, .widerDeep], laidTests := true, laidLooks := .later }
def OrderFixedCardSaid : Prop := Claim7.holds Tryd.pinned (.plain (OpenSpec.ofChange orderFixedSpec)) orderFixedCard

/-- THE TIED CARD OF 'vendmeterkeep.ReceiptForged'. -/
def receiptForgedCard : Claim7 := { stood := { row := receiptForgedRow, standIns := [], harness := (true, "6024a41f8758193fa1f2e30081f8cbdd68f139e43f4817b14dd3448c9a3740dd"), looks := true }, kinds := [], alts := [], laidByText := true, laidKinds := [.data, .data, .data, .data, .pinned], laidTests := true, laidLooks := .later }
def ReceiptForgedCardSaid : Prop := Claim7.holds Tryd.pinned (.plain (OpenSpec.ofChange receiptForgedSpec)) receiptForgedCard

/-- THE TIED CARD OF 'vendmeterkeep.PocketCut'. -/
def pocketCutCard : Claim7 := { stood := { row := pocketCutRow, standIns := [], harness := (true, "6024a41f8758193fa1f2e30081f8cbdd68f139e43f4817b14dd3448c9a3740dd"), looks := true }, kinds := [], alts := [], laidByText := true, laidKinds := [.data, .pinned], laidTests := true, laidLooks := .later }
def PocketCutCardSaid : Prop := Claim7.holds Tryd.pinned (.plain (OpenSpec.ofChange pocketCutSpec)) pocketCutCard

/-- THE TIED CARD OF 'vendmeterkeep.PocketRetry'. -/
def pocketRetryCard : Claim7 := { stood := { row := pocketRetryRow, standIns := [], harness := (true, "6024a41f8758193fa1f2e30081f8cbdd68f139e43f4817b14dd3448c9a3740dd"), looks := true }, kinds := [], alts := [], laidByText := true, laidKinds := [.data, .pinned], laidTests := true, laidLooks := .later }
def PocketRetryCardSaid : Prop := Claim7.holds Tryd.pinned (.plain (OpenSpec.ofChange pocketRetrySpec)) pocketRetryCard

/-- THE TIED CARD OF 'vendmeterkeep.PocketBurns'. -/
def pocketBurnsCard : Claim7 := { stood := { row := pocketBurnsRow, standIns := [], harness := (true, "6024a41f8758193fa1f2e30081f8cbdd68f139e43f4817b14dd3448c9a3740dd"), looks := true }, kinds := [], alts := [], laidByText := true, laidKinds := [.data, .pinned], laidTests := true, laidLooks := .later }
def PocketBurnsCardSaid : Prop := Claim7.holds Tryd.pinned (.plain (OpenSpec.ofChange pocketBurnsSpec)) pocketBurnsCard

/-- THE SECOND FORM's CARD OF 'vendmeterkeep.TokenSwap'. -/
def tokenSwapUptoCard : Claim7 := { stood := { row := tokenSwapUptoRow, standIns := [], harness := (true, "6024a41f8758193fa1f2e30081f8cbdd68f139e43f4817b14dd3448c9a3740dd"), looks := true }, kinds := [], alts := [], laidByText := true, laidKinds := [.data, .pinned], laidTests := true, laidLooks := .later }
def TokenSwapUptoCardSaid : Prop := Claim7.holds Tryd.pinned (.plain (OpenSpec.upto tokenSwapSpec)) tokenSwapUptoCard

/-- THE SECOND FORM's CARD OF 'vendmeterkeep.TokenTwin'. -/
def tokenTwinUptoCard : Claim7 := { stood := { row := tokenTwinUptoRow, standIns := [], harness := (true, "6024a41f8758193fa1f2e30081f8cbdd68f139e43f4817b14dd3448c9a3740dd"), looks := true }, kinds := [], alts := [], laidByText := true, laidKinds := [.data, .pinned], laidTests := true, laidLooks := .later }
def TokenTwinUptoCardSaid : Prop := Claim7.holds Tryd.pinned (.plain (OpenSpec.upto tokenTwinSpec)) tokenTwinUptoCard

/-- THE SECOND FORM's CARD OF 'vendmeterkeep.CodeBack'. -/
def codeBackUptoCard : Claim7 := { stood := { row := codeBackUptoRow, standIns := [], harness := (true, "6024a41f8758193fa1f2e30081f8cbdd68f139e43f4817b14dd3448c9a3740dd"), looks := true }, kinds := [], alts := [], laidByText := true, laidKinds := [.data, .data, .data, .sentinel, .sentinel], laidTests := true, laidLooks := .later }
def CodeBackUptoCardSaid : Prop := Claim7.holds Tryd.pinned (.plain (OpenSpec.upto codeBackSpec)) codeBackUptoCard

/-- THE SECOND FORM's CARD OF 'vendmeterkeep.CodeSlip'. -/
def codeSlipUptoCard : Claim7 := { stood := { row := codeSlipUptoRow, standIns := [], harness := (true, "6024a41f8758193fa1f2e30081f8cbdd68f139e43f4817b14dd3448c9a3740dd"), looks := true }, kinds := [], alts := [], laidByText := true, laidKinds := [.data, .data, .data, .sentinel, .sentinel], laidTests := true, laidLooks := .later }
def CodeSlipUptoCardSaid : Prop := Claim7.holds Tryd.pinned (.plain (OpenSpec.upto codeSlipSpec)) codeSlipUptoCard

/-- THE SECOND FORM's CARD OF 'vendmeterkeep.PocketForged'. -/
def pocketForgedUptoCard : Claim7 := { stood := { row := pocketForgedUptoRow, standIns := [], harness := (true, "6024a41f8758193fa1f2e30081f8cbdd68f139e43f4817b14dd3448c9a3740dd"), looks := true }, kinds := [], alts := [], laidByText := true, laidKinds := [.data, .pinned], laidTests := true, laidLooks := .later }
def PocketForgedUptoCardSaid : Prop := Claim7.holds Tryd.pinned (.plain (OpenSpec.upto pocketForgedSpec)) pocketForgedUptoCard

/-- THE SECOND FORM's CARD OF 'vendmeterkeep.OrderBack'. -/
def orderBackUptoCard : Claim7 := { stood := { row := orderBackUptoRow, standIns := [], harness := (true, "6024a41f8758193fa1f2e30081f8cbdd68f139e43f4817b14dd3448c9a3740dd"), looks := true }, kinds := [], alts := [], laidByText := true, laidKinds := [.data, .data, .data, .sentinel, .sentinel, .widerDeep], laidTests := true, laidLooks := .later }
def OrderBackUptoCardSaid : Prop := Claim7.holds Tryd.pinned (.plain (OpenSpec.upto orderBackSpec)) orderBackUptoCard

/-- THE SECOND FORM's CARD OF 'vendmeterkeep.OrderFixed'. -/
def orderFixedUptoCard : Claim7 := { stood := { row := orderFixedUptoRow, standIns := [], harness := (true, "6024a41f8758193fa1f2e30081f8cbdd68f139e43f4817b14dd3448c9a3740dd"), looks := true }, kinds := [], alts := [], laidByText := true, laidKinds := [.data, .data, .data, .sentinel, .sentinel, .widerDeep], laidTests := true, laidLooks := .later }
def OrderFixedUptoCardSaid : Prop := Claim7.holds Tryd.pinned (.plain (OpenSpec.upto orderFixedSpec)) orderFixedUptoCard

/-- THE SECOND FORM's CARD OF 'vendmeterkeep.ReceiptForged'. -/
def receiptForgedUptoCard : Claim7 := { stood := { row := receiptForgedUptoRow, standIns := [], harness := (true, "6024a41f8758193fa1f2e30081f8cbdd68f139e43f4817b14dd3448c9a3740dd"), looks := true }, kinds := [], alts := [], laidByText := true, laidKinds := [.data, .data, .data, .data, .pinned], laidTests := true, laidLooks := .later }
def ReceiptForgedUptoCardSaid : Prop := Claim7.holds Tryd.pinned (.plain (OpenSpec.upto receiptForgedSpec)) receiptForgedUptoCard

/-- THE SECOND FORM's CARD OF 'vendmeterkeep.PocketCut'. -/
def pocketCutUptoCard : Claim7 := { stood := { row := pocketCutUptoRow, standIns := [], harness := (true, "6024a41f8758193fa1f2e30081f8cbdd68f139e43f4817b14dd3448c9a3740dd"), looks := true }, kinds := [], alts := [], laidByText := true, laidKinds := [.data, .pinned], laidTests := true, laidLooks := .later }
def PocketCutUptoCardSaid : Prop := Claim7.holds Tryd.pinned (.plain (OpenSpec.upto pocketCutSpec)) pocketCutUptoCard

/-- THE SECOND FORM's CARD OF 'vendmeterkeep.PocketRetry'. -/
def pocketRetryUptoCard : Claim7 := { stood := { row := pocketRetryUptoRow, standIns := [], harness := (true, "6024a41f8758193fa1f2e30081f8cbdd68f139e43f4817b14dd3448c9a3740dd"), looks := true }, kinds := [], alts := [], laidByText := true, laidKinds := [.data, .pinned], laidTests := true, laidLooks := .later }
def PocketRetryUptoCardSaid : Prop := Claim7.holds Tryd.pinned (.plain (OpenSpec.upto pocketRetrySpec)) pocketRetryUptoCard

/-- THE SECOND FORM's CARD OF 'vendmeterkeep.PocketBurns'. -/
def pocketBurnsUptoCard : Claim7 := { stood := { row := pocketBurnsUptoRow, standIns := [], harness := (true, "6024a41f8758193fa1f2e30081f8cbdd68f139e43f4817b14dd3448c9a3740dd"), looks := true }, kinds := [], alts := [], laidByText := true, laidKinds := [.data, .pinned], laidTests := true, laidLooks := .later }
def PocketBurnsUptoCardSaid : Prop := Claim7.holds Tryd.pinned (.plain (OpenSpec.upto pocketBurnsSpec)) pocketBurnsUptoCard
end Rows
end Go.Proofs.YtccjcdecpgigpaaDoor
