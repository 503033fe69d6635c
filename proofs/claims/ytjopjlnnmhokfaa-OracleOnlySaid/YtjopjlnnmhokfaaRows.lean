/-
  No cell of these rows narrows 'for every input' (looked for: loops, veiled, ifaces, maps, wideKeys, modest, calm, conditions, laid).
  DERIVED. THE GIVEN ROWS OF THIS SEAT. 12 by the template 'for every input the law returns true; each argument reads behind the call as it read before'; 0 by the template 'total and deterministic' (their statements: YtjopjlnnmhokfaaTotals.lean).
  GIVEN WITH THE SEED: the statements are not yours to turn. If you find one false, say at which input.
  Laid BY PROGRAM, IN A SANDBOX (cutbox-rows.mjs): the forced cells as the released guide's own fill.sh prints them over the translation 58a1c389cbd3b5d6… (all of the seat's roots in one cut). By AI agents, Wed Nov 11 2026. No macro, syntax, notation, axiom, sorry.
-/
import Derived.Test.YtjopjlnnmhokfaaChecked
import GoSem.Claim
import GoSem.ClaimJoined
import GoSem.ClaimMapViews
import Derived.JoinedTies
import Derived.KernelRfl
namespace Go.Proofs.Ytjopjlnnmhokfaa
/- THE CELL 'sum', in the pinned program and in every row, IS THE sha256 OF THE DUMP (.gsa) THAT YtjopjlnnmhokfaaProg.lean LOADS. Nothing in Lean hashes anything: it is a label: what it is worth is what the hold of that sum in a sandbox is worth. -/
noncomputable def Try.pinned : Pinned := { name := "ytjopjlnnmhokfaa", sum := "58a1c389cbd3b5d62d71fec602e90100fb0f68d2a681903e07f040a31b33a2cd", checked := Try.checked }
namespace Rows
def none {H : Type} : Left H := { results := [], args := [] }

/-- 'vendmeterkeep.CalNext': WHATEVER THE INPUT: true; the input reads as it did. -/
def calNextSpec : ChangeSpec := { name := "calNext", fn := fun _ => fun
  | [d] => { results := [.lit (.bool true)], args := [d] }
  | _ => none }
def calNextRow : OpenClaim := { program := "ytjopjlnnmhokfaa", sum := "58a1c389cbd3b5d62d71fec602e90100fb0f68d2a681903e07f040a31b33a2cd", func := "vendmeter/vendmeterkeep.CalNext", spec := "calNext", plainKeys := false, apart := false }
def CalNextSaid : Prop := calNextRow.holds Try.pinned (OpenSpec.ofChange calNextSpec)

/-- ITS FALSE NEIGHBOUR: 'it returns false'. Refute it at one input. -/
def calNextWrong : ChangeSpec := { name := "calNext", fn := fun _ => fun
  | [d] => { results := [.lit (.bool false)], args := [d] }
  | _ => none }
def CalNextWrongFalsely : Prop := calNextRow.holds Try.pinned (OpenSpec.ofChange calNextWrong)

/-- 'vendmeterkeep.PutBits': WHATEVER THE INPUT: true; the input reads as it did. -/
def putBitsSpec : ChangeSpec := { name := "putBits", fn := fun _ => fun
  | [d1, d2, d3, d4] => { results := [.lit (.bool true)], args := [d1, d2, d3, d4] }
  | _ => none }
def putBitsRow : OpenClaim := { program := "ytjopjlnnmhokfaa", sum := "58a1c389cbd3b5d62d71fec602e90100fb0f68d2a681903e07f040a31b33a2cd", func := "vendmeter/vendmeterkeep.PutBits", spec := "putBits", plainKeys := false, apart := false }
def PutBitsSaid : Prop := putBitsRow.holds Try.pinned (OpenSpec.ofChange putBitsSpec)

/-- ITS FALSE NEIGHBOUR: 'it returns false'. Refute it at one input. -/
def putBitsWrong : ChangeSpec := { name := "putBits", fn := fun _ => fun
  | [d1, d2, d3, d4] => { results := [.lit (.bool false)], args := [d1, d2, d3, d4] }
  | _ => none }
def PutBitsWrongFalsely : Prop := putBitsRow.holds Try.pinned (OpenSpec.ofChange putBitsWrong)

/-- 'vendmeterkeep.OverBack': WHATEVER THE INPUT: true; the input reads as it did. -/
def overBackSpec : ChangeSpec := { name := "overBack", fn := fun _ => fun
  | [d1, d2] => { results := [.lit (.bool true)], args := [d1, d2] }
  | _ => none }
def overBackRow : OpenClaim := { program := "ytjopjlnnmhokfaa", sum := "58a1c389cbd3b5d62d71fec602e90100fb0f68d2a681903e07f040a31b33a2cd", func := "vendmeter/vendmeterkeep.OverBack", spec := "overBack", unfollowed := true, recurses := true, named := ["math/bits.overflowError"], plainKeys := false, apart := false }
def OverBackSaid : Prop := overBackRow.holds Try.pinned (OpenSpec.ofChange overBackSpec)

/-- ITS FALSE NEIGHBOUR: 'it returns false'. Refute it at one input. -/
def overBackWrong : ChangeSpec := { name := "overBack", fn := fun _ => fun
  | [d1, d2] => { results := [.lit (.bool false)], args := [d1, d2] }
  | _ => none }
def OverBackWrongFalsely : Prop := overBackRow.holds Try.pinned (OpenSpec.ofChange overBackWrong)

/-- 'vendmeterkeep.OracleAgain': WHATEVER THE INPUT: true; the input reads as it did. -/
def oracleAgainSpec : ChangeSpec := { name := "oracleAgain", fn := fun _ => fun
  | [d1, d2, d3] => { results := [.lit (.bool true)], args := [d1, d2, d3] }
  | _ => none }
def oracleAgainRow : OpenClaim := { program := "ytjopjlnnmhokfaa", sum := "58a1c389cbd3b5d62d71fec602e90100fb0f68d2a681903e07f040a31b33a2cd", func := "vendmeter/vendmeterkeep.OracleAgain", spec := "oracleAgain", plainKeys := false, apart := false }
def OracleAgainSaid : Prop := oracleAgainRow.holds Try.pinned (OpenSpec.ofChange oracleAgainSpec)

/-- ITS FALSE NEIGHBOUR: 'it returns false'. Refute it at one input. -/
def oracleAgainWrong : ChangeSpec := { name := "oracleAgain", fn := fun _ => fun
  | [d1, d2, d3] => { results := [.lit (.bool false)], args := [d1, d2, d3] }
  | _ => none }
def OracleAgainWrongFalsely : Prop := oracleAgainRow.holds Try.pinned (OpenSpec.ofChange oracleAgainWrong)

/-- 'vendmeterkeep.WindowOnce': WHATEVER THE INPUT: true; the input reads as it did. -/
def windowOnceSpec : ChangeSpec := { name := "windowOnce", fn := fun _ => fun
  | [d] => { results := [.lit (.bool true)], args := [d] }
  | _ => none }
def windowOnceRow : OpenClaim := { program := "ytjopjlnnmhokfaa", sum := "58a1c389cbd3b5d62d71fec602e90100fb0f68d2a681903e07f040a31b33a2cd", func := "vendmeter/vendmeterkeep.WindowOnce", spec := "windowOnce", plainKeys := false, apart := false }
def WindowOnceSaid : Prop := windowOnceRow.holds Try.pinned (OpenSpec.ofChange windowOnceSpec)

/-- ITS FALSE NEIGHBOUR: 'it returns false'. Refute it at one input. -/
def windowOnceWrong : ChangeSpec := { name := "windowOnce", fn := fun _ => fun
  | [d] => { results := [.lit (.bool false)], args := [d] }
  | _ => none }
def WindowOnceWrongFalsely : Prop := windowOnceRow.holds Try.pinned (OpenSpec.ofChange windowOnceWrong)

/-- 'vendmeterkeep.WindowRises': WHATEVER THE INPUT: true; the input reads as it did. -/
def windowRisesSpec : ChangeSpec := { name := "windowRises", fn := fun _ => fun
  | [d] => { results := [.lit (.bool true)], args := [d] }
  | _ => none }
def windowRisesRow : OpenClaim := { program := "ytjopjlnnmhokfaa", sum := "58a1c389cbd3b5d62d71fec602e90100fb0f68d2a681903e07f040a31b33a2cd", func := "vendmeter/vendmeterkeep.WindowRises", spec := "windowRises", plainKeys := false, apart := false }
def WindowRisesSaid : Prop := windowRisesRow.holds Try.pinned (OpenSpec.ofChange windowRisesSpec)

/-- ITS FALSE NEIGHBOUR: 'it returns false'. Refute it at one input. -/
def windowRisesWrong : ChangeSpec := { name := "windowRises", fn := fun _ => fun
  | [d] => { results := [.lit (.bool false)], args := [d] }
  | _ => none }
def WindowRisesWrongFalsely : Prop := windowRisesRow.holds Try.pinned (OpenSpec.ofChange windowRisesWrong)

/-- 'vendmeterkeep.CheckSlip': WHATEVER THE INPUT: true; the input reads as it did. -/
def checkSlipSpec : ChangeSpec := { name := "checkSlip", fn := fun _ => fun
  | [d1, d2, d3] => { results := [.lit (.bool true)], args := [d1, d2, d3] }
  | _ => none }
def checkSlipRow : OpenClaim := { program := "ytjopjlnnmhokfaa", sum := "58a1c389cbd3b5d62d71fec602e90100fb0f68d2a681903e07f040a31b33a2cd", func := "vendmeter/vendmeterkeep.CheckSlip", spec := "checkSlip", plainKeys := false, apart := false }
def CheckSlipSaid : Prop := checkSlipRow.holds Try.pinned (OpenSpec.ofChange checkSlipSpec)

/-- ITS FALSE NEIGHBOUR: 'it returns false'. Refute it at one input. -/
def checkSlipWrong : ChangeSpec := { name := "checkSlip", fn := fun _ => fun
  | [d1, d2, d3] => { results := [.lit (.bool false)], args := [d1, d2, d3] }
  | _ => none }
def CheckSlipWrongFalsely : Prop := checkSlipRow.holds Try.pinned (OpenSpec.ofChange checkSlipWrong)

/-- 'vendmeterkeep.CheckSwap': WHATEVER THE INPUT: true; the input reads as it did. -/
def checkSwapSpec : ChangeSpec := { name := "checkSwap", fn := fun _ => fun
  | [d1, d2] => { results := [.lit (.bool true)], args := [d1, d2] }
  | _ => none }
def checkSwapRow : OpenClaim := { program := "ytjopjlnnmhokfaa", sum := "58a1c389cbd3b5d62d71fec602e90100fb0f68d2a681903e07f040a31b33a2cd", func := "vendmeter/vendmeterkeep.CheckSwap", spec := "checkSwap", plainKeys := false, apart := false }
def CheckSwapSaid : Prop := checkSwapRow.holds Try.pinned (OpenSpec.ofChange checkSwapSpec)

/-- ITS FALSE NEIGHBOUR: 'it returns false'. Refute it at one input. -/
def checkSwapWrong : ChangeSpec := { name := "checkSwap", fn := fun _ => fun
  | [d1, d2] => { results := [.lit (.bool false)], args := [d1, d2] }
  | _ => none }
def CheckSwapWrongFalsely : Prop := checkSwapRow.holds Try.pinned (OpenSpec.ofChange checkSwapWrong)

/-- 'vendmeterkeep.DebtAdds': WHATEVER THE INPUT: true; the input reads as it did. -/
def debtAddsSpec : ChangeSpec := { name := "debtAdds", fn := fun _ => fun
  | [d1, d2, d3] => { results := [.lit (.bool true)], args := [d1, d2, d3] }
  | _ => none }
def debtAddsRow : OpenClaim := { program := "ytjopjlnnmhokfaa", sum := "58a1c389cbd3b5d62d71fec602e90100fb0f68d2a681903e07f040a31b33a2cd", func := "vendmeter/vendmeterkeep.DebtAdds", spec := "debtAdds", plainKeys := false, apart := false }
def DebtAddsSaid : Prop := debtAddsRow.holds Try.pinned (OpenSpec.ofChange debtAddsSpec)

/-- ITS FALSE NEIGHBOUR: 'it returns false'. Refute it at one input. -/
def debtAddsWrong : ChangeSpec := { name := "debtAdds", fn := fun _ => fun
  | [d1, d2, d3] => { results := [.lit (.bool false)], args := [d1, d2, d3] }
  | _ => none }
def DebtAddsWrongFalsely : Prop := debtAddsRow.holds Try.pinned (OpenSpec.ofChange debtAddsWrong)

/-- 'vendmeterkeep.CalBack': WHATEVER THE INPUT: true; the input reads as it did. -/
def calBackSpec : ChangeSpec := { name := "calBack", fn := fun _ => fun
  | [d] => { results := [.lit (.bool true)], args := [d] }
  | _ => none }
def calBackRow : OpenClaim := { program := "ytjopjlnnmhokfaa", sum := "58a1c389cbd3b5d62d71fec602e90100fb0f68d2a681903e07f040a31b33a2cd", func := "vendmeter/vendmeterkeep.CalBack", spec := "calBack", plainKeys := false, apart := false }
def CalBackSaid : Prop := calBackRow.holds Try.pinned (OpenSpec.ofChange calBackSpec)

/-- ITS FALSE NEIGHBOUR: 'it returns false'. Refute it at one input. -/
def calBackWrong : ChangeSpec := { name := "calBack", fn := fun _ => fun
  | [d] => { results := [.lit (.bool false)], args := [d] }
  | _ => none }
def CalBackWrongFalsely : Prop := calBackRow.holds Try.pinned (OpenSpec.ofChange calBackWrong)

/-- 'vendmeterkeep.MeterBurns': WHATEVER THE INPUT: true; the input reads as it did. -/
def meterBurnsSpec : ChangeSpec := { name := "meterBurns", fn := fun _ => fun
  | [d1, d2] => { results := [.lit (.bool true)], args := [d1, d2] }
  | _ => none }
def meterBurnsRow : OpenClaim := { program := "ytjopjlnnmhokfaa", sum := "58a1c389cbd3b5d62d71fec602e90100fb0f68d2a681903e07f040a31b33a2cd", func := "vendmeter/vendmeterkeep.MeterBurns", spec := "meterBurns", plainKeys := false, apart := false }
def MeterBurnsSaid : Prop := meterBurnsRow.holds Try.pinned (OpenSpec.ofChange meterBurnsSpec)

/-- ITS FALSE NEIGHBOUR: 'it returns false'. Refute it at one input. -/
def meterBurnsWrong : ChangeSpec := { name := "meterBurns", fn := fun _ => fun
  | [d1, d2] => { results := [.lit (.bool false)], args := [d1, d2] }
  | _ => none }
def MeterBurnsWrongFalsely : Prop := meterBurnsRow.holds Try.pinned (OpenSpec.ofChange meterBurnsWrong)

/-- 'vendmeterkeep.OracleOnly': WHATEVER THE INPUT: true; the input reads as it did. -/
def oracleOnlySpec : ChangeSpec := { name := "oracleOnly", fn := fun _ => fun
  | [d1, d2] => { results := [.lit (.bool true)], args := [d1, d2] }
  | _ => none }
def oracleOnlyRow : OpenClaim := { program := "ytjopjlnnmhokfaa", sum := "58a1c389cbd3b5d62d71fec602e90100fb0f68d2a681903e07f040a31b33a2cd", func := "vendmeter/vendmeterkeep.OracleOnly", spec := "oracleOnly", plainKeys := false, apart := false }
def OracleOnlySaid : Prop := oracleOnlyRow.holds Try.pinned (OpenSpec.ofChange oracleOnlySpec)

/-- ITS FALSE NEIGHBOUR: 'it returns false'. Refute it at one input. -/
def oracleOnlyWrong : ChangeSpec := { name := "oracleOnly", fn := fun _ => fun
  | [d1, d2] => { results := [.lit (.bool false)], args := [d1, d2] }
  | _ => none }
def OracleOnlyWrongFalsely : Prop := oracleOnlyRow.holds Try.pinned (OpenSpec.ofChange oracleOnlyWrong)

/- THE SECOND FORM. 'bulk': how many values and letters a reading holds, each counted each time it is reached (what is shared counts as often as it is met; a slice's spare places count too). A statement '..UptoSaid' is the law's where the arguments, and the package variables that the reading takes, are together of bulk at most 1048576: NARROWER than '..Said'. Prove '..Said' where nothing that the law and all that it calls make is longer than what came in: it says more and counts as full. Else prove '..UptoSaid'. A law counts once. -/
mutual
def uptoBulk {H : Type} : DataW H → Nat
  | .lit (.string bytes) => bytes.length + 1
  | .lit _ => 1
  | .nil => 1
  | .ptr d => uptoBulk d + 1
  | .slice elems spare => uptoBulkAll elems + uptoBulkAll spare + 1
  | .agg parts => uptoBulkAll parts + 1
  | .iface _ d => uptoBulk d + 1
  | .map entries => uptoBulkEntries entries + 1
  | .held _ => 1
def uptoBulkAll {H : Type} : List (DataW H) → Nat
  | [] => 0
  | d :: r => uptoBulk d + uptoBulkAll r
def uptoBulkEntries {H : Type} : List (Lit × DataW H) → Nat
  | [] => 0
  | x :: r => uptoBulkEntry x + uptoBulkEntries r
def uptoBulkEntry {H : Type} : Lit × DataW H → Nat
  | (.string bytes, d) => bytes.length + uptoBulk d + 1
  | (_, d) => uptoBulk d + 1
 end
def uptoSmall : (H : Type) → List (DataW H) → Bool := fun _ ds => decide (uptoBulkAll ds ≤ 1048576)
def OpenSpec.upto (s : _root_.Go.ChangeSpec) : _root_.Go.OpenSpec := { _root_.Go.OpenSpec.ofChange s with cond := some uptoSmall }

/-- 'vendmeterkeep.CalNext', WHERE WHAT IT READS IS OF BULK AT MOST 1048576: true; the input reads as it did. -/
def calNextUptoRow : OpenClaim := { program := "ytjopjlnnmhokfaa", sum := "58a1c389cbd3b5d62d71fec602e90100fb0f68d2a681903e07f040a31b33a2cd", func := "vendmeter/vendmeterkeep.CalNext", spec := "calNext", plainKeys := false, apart := false, narrowed := true }
def CalNextUptoSaid : Prop := calNextUptoRow.holds Try.pinned (OpenSpec.upto calNextSpec)

/-- 'vendmeterkeep.PutBits', WHERE WHAT IT READS IS OF BULK AT MOST 1048576: true; the input reads as it did. -/
def putBitsUptoRow : OpenClaim := { program := "ytjopjlnnmhokfaa", sum := "58a1c389cbd3b5d62d71fec602e90100fb0f68d2a681903e07f040a31b33a2cd", func := "vendmeter/vendmeterkeep.PutBits", spec := "putBits", plainKeys := false, apart := false, narrowed := true }
def PutBitsUptoSaid : Prop := putBitsUptoRow.holds Try.pinned (OpenSpec.upto putBitsSpec)

/-- 'vendmeterkeep.OverBack', WHERE WHAT IT READS IS OF BULK AT MOST 1048576: true; the input reads as it did. -/
def overBackUptoRow : OpenClaim := { program := "ytjopjlnnmhokfaa", sum := "58a1c389cbd3b5d62d71fec602e90100fb0f68d2a681903e07f040a31b33a2cd", func := "vendmeter/vendmeterkeep.OverBack", spec := "overBack", unfollowed := true, recurses := true, named := ["math/bits.overflowError"], plainKeys := false, apart := false, narrowed := true }
def OverBackUptoSaid : Prop := overBackUptoRow.holds Try.pinned (OpenSpec.upto overBackSpec)

/-- 'vendmeterkeep.OracleAgain', WHERE WHAT IT READS IS OF BULK AT MOST 1048576: true; the input reads as it did. -/
def oracleAgainUptoRow : OpenClaim := { program := "ytjopjlnnmhokfaa", sum := "58a1c389cbd3b5d62d71fec602e90100fb0f68d2a681903e07f040a31b33a2cd", func := "vendmeter/vendmeterkeep.OracleAgain", spec := "oracleAgain", plainKeys := false, apart := false, narrowed := true }
def OracleAgainUptoSaid : Prop := oracleAgainUptoRow.holds Try.pinned (OpenSpec.upto oracleAgainSpec)

/-- 'vendmeterkeep.WindowOnce', WHERE WHAT IT READS IS OF BULK AT MOST 1048576: true; the input reads as it did. -/
def windowOnceUptoRow : OpenClaim := { program := "ytjopjlnnmhokfaa", sum := "58a1c389cbd3b5d62d71fec602e90100fb0f68d2a681903e07f040a31b33a2cd", func := "vendmeter/vendmeterkeep.WindowOnce", spec := "windowOnce", plainKeys := false, apart := false, narrowed := true }
def WindowOnceUptoSaid : Prop := windowOnceUptoRow.holds Try.pinned (OpenSpec.upto windowOnceSpec)

/-- 'vendmeterkeep.WindowRises', WHERE WHAT IT READS IS OF BULK AT MOST 1048576: true; the input reads as it did. -/
def windowRisesUptoRow : OpenClaim := { program := "ytjopjlnnmhokfaa", sum := "58a1c389cbd3b5d62d71fec602e90100fb0f68d2a681903e07f040a31b33a2cd", func := "vendmeter/vendmeterkeep.WindowRises", spec := "windowRises", plainKeys := false, apart := false, narrowed := true }
def WindowRisesUptoSaid : Prop := windowRisesUptoRow.holds Try.pinned (OpenSpec.upto windowRisesSpec)

/-- 'vendmeterkeep.CheckSlip', WHERE WHAT IT READS IS OF BULK AT MOST 1048576: true; the input reads as it did. -/
def checkSlipUptoRow : OpenClaim := { program := "ytjopjlnnmhokfaa", sum := "58a1c389cbd3b5d62d71fec602e90100fb0f68d2a681903e07f040a31b33a2cd", func := "vendmeter/vendmeterkeep.CheckSlip", spec := "checkSlip", plainKeys := false, apart := false, narrowed := true }
def CheckSlipUptoSaid : Prop := checkSlipUptoRow.holds Try.pinned (OpenSpec.upto checkSlipSpec)

/-- 'vendmeterkeep.CheckSwap', WHERE WHAT IT READS IS OF BULK AT MOST 1048576: true; the input reads as it did. -/
def checkSwapUptoRow : OpenClaim := { program := "ytjopjlnnmhokfaa", sum := "58a1c389cbd3b5d62d71fec602e90100fb0f68d2a681903e07f040a31b33a2cd", func := "vendmeter/vendmeterkeep.CheckSwap", spec := "checkSwap", plainKeys := false, apart := false, narrowed := true }
def CheckSwapUptoSaid : Prop := checkSwapUptoRow.holds Try.pinned (OpenSpec.upto checkSwapSpec)

/-- 'vendmeterkeep.DebtAdds', WHERE WHAT IT READS IS OF BULK AT MOST 1048576: true; the input reads as it did. -/
def debtAddsUptoRow : OpenClaim := { program := "ytjopjlnnmhokfaa", sum := "58a1c389cbd3b5d62d71fec602e90100fb0f68d2a681903e07f040a31b33a2cd", func := "vendmeter/vendmeterkeep.DebtAdds", spec := "debtAdds", plainKeys := false, apart := false, narrowed := true }
def DebtAddsUptoSaid : Prop := debtAddsUptoRow.holds Try.pinned (OpenSpec.upto debtAddsSpec)

/-- 'vendmeterkeep.CalBack', WHERE WHAT IT READS IS OF BULK AT MOST 1048576: true; the input reads as it did. -/
def calBackUptoRow : OpenClaim := { program := "ytjopjlnnmhokfaa", sum := "58a1c389cbd3b5d62d71fec602e90100fb0f68d2a681903e07f040a31b33a2cd", func := "vendmeter/vendmeterkeep.CalBack", spec := "calBack", plainKeys := false, apart := false, narrowed := true }
def CalBackUptoSaid : Prop := calBackUptoRow.holds Try.pinned (OpenSpec.upto calBackSpec)

/-- 'vendmeterkeep.MeterBurns', WHERE WHAT IT READS IS OF BULK AT MOST 1048576: true; the input reads as it did. -/
def meterBurnsUptoRow : OpenClaim := { program := "ytjopjlnnmhokfaa", sum := "58a1c389cbd3b5d62d71fec602e90100fb0f68d2a681903e07f040a31b33a2cd", func := "vendmeter/vendmeterkeep.MeterBurns", spec := "meterBurns", plainKeys := false, apart := false, narrowed := true }
def MeterBurnsUptoSaid : Prop := meterBurnsUptoRow.holds Try.pinned (OpenSpec.upto meterBurnsSpec)

/-- 'vendmeterkeep.OracleOnly', WHERE WHAT IT READS IS OF BULK AT MOST 1048576: true; the input reads as it did. -/
def oracleOnlyUptoRow : OpenClaim := { program := "ytjopjlnnmhokfaa", sum := "58a1c389cbd3b5d62d71fec602e90100fb0f68d2a681903e07f040a31b33a2cd", func := "vendmeter/vendmeterkeep.OracleOnly", spec := "oracleOnly", plainKeys := false, apart := false, narrowed := true }
def OracleOnlyUptoSaid : Prop := oracleOnlyUptoRow.holds Try.pinned (OpenSpec.upto oracleOnlySpec)

end Rows
end Go.Proofs.Ytjopjlnnmhokfaa
