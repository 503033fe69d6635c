/-
  No cell of these rows narrows 'for every input' (looked for: loops, veiled, ifaces, maps, wideKeys, modest, calm, conditions, laid).
  DERIVED. THE GIVEN ROWS OF THIS SEAT. 12 by the template 'for every input the law returns true; each argument reads behind the call as it read before'; 0 by the template 'total and deterministic' (their statements: YtdomipmfghnfaaaTotals.lean).
  GIVEN WITH THE SEED: the statements are not yours to turn. If you find one false, say at which input.
  Laid BY PROGRAM, IN A SANDBOX (cutbox-rows.mjs): the forced cells as the released guide's own fill.sh prints them over the translation cb33bf20db49dd20… (all of the seat's roots in one cut). By AI agents, Wed Nov 11 2026. No macro, syntax, notation, axiom, sorry.
-/
import Derived.Test.YtdomipmfghnfaaaChecked
import GoSem.Claim
import GoSem.ClaimJoined
import GoSem.ClaimMapViews
import Derived.JoinedTies
import Derived.KernelRfl
namespace Go.Proofs.Ytdomipmfghnfaaa
/- THE CELL 'sum', in the pinned program and in every row, IS THE sha256 OF THE DUMP (.gsa) THAT YtdomipmfghnfaaaProg.lean LOADS. Nothing in Lean hashes anything: it is a label: what it is worth is what the hold of that sum in a sandbox is worth. -/
noncomputable def Try.pinned : Pinned := { name := "ytdomipmfghnfaaa", sum := "cb33bf20db49dd209f980d13d7bb1eaa5b5012ae3c1e944f66e5a1bfb4864423", checked := Try.checked }
namespace Rows
def none {H : Type} : Left H := { results := [], args := [] }

/-- 'vendmeterkeep.CalWeeks': WHATEVER THE INPUT: true; the input reads as it did. -/
def calWeeksSpec : ChangeSpec := { name := "calWeeks", fn := fun _ => fun
  | [d] => { results := [.lit (.bool true)], args := [d] }
  | _ => none }
def calWeeksRow : OpenClaim := { program := "ytdomipmfghnfaaa", sum := "cb33bf20db49dd209f980d13d7bb1eaa5b5012ae3c1e944f66e5a1bfb4864423", func := "vendmeter/vendmeterkeep.CalWeeks", spec := "calWeeks", apart := false }
def CalWeeksSaid : Prop := calWeeksRow.holds Try.pinned (OpenSpec.ofChange calWeeksSpec)

/-- ITS FALSE NEIGHBOUR: 'it returns false'. Refute it at one input. -/
def calWeeksWrong : ChangeSpec := { name := "calWeeks", fn := fun _ => fun
  | [d] => { results := [.lit (.bool false)], args := [d] }
  | _ => none }
def CalWeeksWrongFalsely : Prop := calWeeksRow.holds Try.pinned (OpenSpec.ofChange calWeeksWrong)

/-- 'vendmeterkeep.PartSplits': WHATEVER THE INPUT: true; the input reads as it did. -/
def partSplitsSpec : ChangeSpec := { name := "partSplits", fn := fun _ => fun
  | [d1, d2] => { results := [.lit (.bool true)], args := [d1, d2] }
  | _ => none }
def partSplitsRow : OpenClaim := { program := "ytdomipmfghnfaaa", sum := "cb33bf20db49dd209f980d13d7bb1eaa5b5012ae3c1e944f66e5a1bfb4864423", func := "vendmeter/vendmeterkeep.PartSplits", spec := "partSplits", apart := false }
def PartSplitsSaid : Prop := partSplitsRow.holds Try.pinned (OpenSpec.ofChange partSplitsSpec)

/-- ITS FALSE NEIGHBOUR: 'it returns false'. Refute it at one input. -/
def partSplitsWrong : ChangeSpec := { name := "partSplits", fn := fun _ => fun
  | [d1, d2] => { results := [.lit (.bool false)], args := [d1, d2] }
  | _ => none }
def PartSplitsWrongFalsely : Prop := partSplitsRow.holds Try.pinned (OpenSpec.ofChange partSplitsWrong)

/-- 'vendmeterkeep.RestSlip': WHATEVER THE INPUT: true; the input reads as it did. -/
def restSlipSpec : ChangeSpec := { name := "restSlip", fn := fun _ => fun
  | [d1, d2, d3] => { results := [.lit (.bool true)], args := [d1, d2, d3] }
  | _ => none }
def restSlipRow : OpenClaim := { program := "ytdomipmfghnfaaa", sum := "cb33bf20db49dd209f980d13d7bb1eaa5b5012ae3c1e944f66e5a1bfb4864423", func := "vendmeter/vendmeterkeep.RestSlip", spec := "restSlip", apart := false }
def RestSlipSaid : Prop := restSlipRow.holds Try.pinned (OpenSpec.ofChange restSlipSpec)

/-- ITS FALSE NEIGHBOUR: 'it returns false'. Refute it at one input. -/
def restSlipWrong : ChangeSpec := { name := "restSlip", fn := fun _ => fun
  | [d1, d2, d3] => { results := [.lit (.bool false)], args := [d1, d2, d3] }
  | _ => none }
def RestSlipWrongFalsely : Prop := restSlipRow.holds Try.pinned (OpenSpec.ofChange restSlipWrong)

/-- 'vendmeterkeep.RestSwaps': WHATEVER THE INPUT: true; the input reads as it did. -/
def restSwapsSpec : ChangeSpec := { name := "restSwaps", fn := fun _ => fun
  | [d1, d2, d3] => { results := [.lit (.bool true)], args := [d1, d2, d3] }
  | _ => none }
def restSwapsRow : OpenClaim := { program := "ytdomipmfghnfaaa", sum := "cb33bf20db49dd209f980d13d7bb1eaa5b5012ae3c1e944f66e5a1bfb4864423", func := "vendmeter/vendmeterkeep.RestSwaps", spec := "restSwaps", apart := false }
def RestSwapsSaid : Prop := restSwapsRow.holds Try.pinned (OpenSpec.ofChange restSwapsSpec)

/-- ITS FALSE NEIGHBOUR: 'it returns false'. Refute it at one input. -/
def restSwapsWrong : ChangeSpec := { name := "restSwaps", fn := fun _ => fun
  | [d1, d2, d3] => { results := [.lit (.bool false)], args := [d1, d2, d3] }
  | _ => none }
def RestSwapsWrongFalsely : Prop := restSwapsRow.holds Try.pinned (OpenSpec.ofChange restSwapsWrong)

/-- 'vendmeterkeep.RestJoins': WHATEVER THE INPUT: true; the input reads as it did. -/
def restJoinsSpec : ChangeSpec := { name := "restJoins", fn := fun _ => fun
  | [d1, d2] => { results := [.lit (.bool true)], args := [d1, d2] }
  | _ => none }
def restJoinsRow : OpenClaim := { program := "ytdomipmfghnfaaa", sum := "cb33bf20db49dd209f980d13d7bb1eaa5b5012ae3c1e944f66e5a1bfb4864423", func := "vendmeter/vendmeterkeep.RestJoins", spec := "restJoins", apart := false }
def RestJoinsSaid : Prop := restJoinsRow.holds Try.pinned (OpenSpec.ofChange restJoinsSpec)

/-- ITS FALSE NEIGHBOUR: 'it returns false'. Refute it at one input. -/
def restJoinsWrong : ChangeSpec := { name := "restJoins", fn := fun _ => fun
  | [d1, d2] => { results := [.lit (.bool false)], args := [d1, d2] }
  | _ => none }
def RestJoinsWrongFalsely : Prop := restJoinsRow.holds Try.pinned (OpenSpec.ofChange restJoinsWrong)

/-- 'vendmeterkeep.TimesTurns': WHATEVER THE INPUT: true; the input reads as it did. -/
def timesTurnsSpec : ChangeSpec := { name := "timesTurns", fn := fun _ => fun
  | [d1, d2, d3] => { results := [.lit (.bool true)], args := [d1, d2, d3] }
  | _ => none }
def timesTurnsRow : OpenClaim := { program := "ytdomipmfghnfaaa", sum := "cb33bf20db49dd209f980d13d7bb1eaa5b5012ae3c1e944f66e5a1bfb4864423", func := "vendmeter/vendmeterkeep.TimesTurns", spec := "timesTurns", unfollowed := true, recurses := true, apart := false }
def TimesTurnsSaid : Prop := timesTurnsRow.holds Try.pinned (OpenSpec.ofChange timesTurnsSpec)

/-- ITS FALSE NEIGHBOUR: 'it returns false'. Refute it at one input. -/
def timesTurnsWrong : ChangeSpec := { name := "timesTurns", fn := fun _ => fun
  | [d1, d2, d3] => { results := [.lit (.bool false)], args := [d1, d2, d3] }
  | _ => none }
def TimesTurnsWrongFalsely : Prop := timesTurnsRow.holds Try.pinned (OpenSpec.ofChange timesTurnsWrong)

/-- 'vendmeterkeep.ApplyStep': WHATEVER THE INPUT: true; the input reads as it did. -/
def applyStepSpec : ChangeSpec := { name := "applyStep", fn := fun _ => fun
  | [d1, d2, d3] => { results := [.lit (.bool true)], args := [d1, d2, d3] }
  | _ => none }
def applyStepRow : OpenClaim := { program := "ytdomipmfghnfaaa", sum := "cb33bf20db49dd209f980d13d7bb1eaa5b5012ae3c1e944f66e5a1bfb4864423", func := "vendmeter/vendmeterkeep.ApplyStep", spec := "applyStep", unfollowed := true, recurses := true, apart := false }
def ApplyStepSaid : Prop := applyStepRow.holds Try.pinned (OpenSpec.ofChange applyStepSpec)

/-- ITS FALSE NEIGHBOUR: 'it returns false'. Refute it at one input. -/
def applyStepWrong : ChangeSpec := { name := "applyStep", fn := fun _ => fun
  | [d1, d2, d3] => { results := [.lit (.bool false)], args := [d1, d2, d3] }
  | _ => none }
def ApplyStepWrongFalsely : Prop := applyStepRow.holds Try.pinned (OpenSpec.ofChange applyStepWrong)

/-- 'vendmeterkeep.CheckGroup': WHATEVER THE INPUT: true; the input reads as it did. -/
def checkGroupSpec : ChangeSpec := { name := "checkGroup", fn := fun _ => fun
  | [d1, d2, d3] => { results := [.lit (.bool true)], args := [d1, d2, d3] }
  | _ => none }
def checkGroupRow : OpenClaim := { program := "ytdomipmfghnfaaa", sum := "cb33bf20db49dd209f980d13d7bb1eaa5b5012ae3c1e944f66e5a1bfb4864423", func := "vendmeter/vendmeterkeep.CheckGroup", spec := "checkGroup", unfollowed := true, recurses := true, apart := false }
def CheckGroupSaid : Prop := checkGroupRow.holds Try.pinned (OpenSpec.ofChange checkGroupSpec)

/-- ITS FALSE NEIGHBOUR: 'it returns false'. Refute it at one input. -/
def checkGroupWrong : ChangeSpec := { name := "checkGroup", fn := fun _ => fun
  | [d1, d2, d3] => { results := [.lit (.bool false)], args := [d1, d2, d3] }
  | _ => none }
def CheckGroupWrongFalsely : Prop := checkGroupRow.holds Try.pinned (OpenSpec.ofChange checkGroupWrong)

/-- 'vendmeterkeep.DebtSteps': WHATEVER THE INPUT: true; the input reads as it did. -/
def debtStepsSpec : ChangeSpec := { name := "debtSteps", fn := fun _ => fun
  | [d1, d2, d3] => { results := [.lit (.bool true)], args := [d1, d2, d3] }
  | _ => none }
def debtStepsRow : OpenClaim := { program := "ytdomipmfghnfaaa", sum := "cb33bf20db49dd209f980d13d7bb1eaa5b5012ae3c1e944f66e5a1bfb4864423", func := "vendmeter/vendmeterkeep.DebtSteps", spec := "debtSteps", apart := false }
def DebtStepsSaid : Prop := debtStepsRow.holds Try.pinned (OpenSpec.ofChange debtStepsSpec)

/-- ITS FALSE NEIGHBOUR: 'it returns false'. Refute it at one input. -/
def debtStepsWrong : ChangeSpec := { name := "debtSteps", fn := fun _ => fun
  | [d1, d2, d3] => { results := [.lit (.bool false)], args := [d1, d2, d3] }
  | _ => none }
def DebtStepsWrongFalsely : Prop := debtStepsRow.holds Try.pinned (OpenSpec.ofChange debtStepsWrong)

/-- 'vendmeterkeep.DiffBack': WHATEVER THE INPUT: true; the input reads as it did. -/
def diffBackSpec : ChangeSpec := { name := "diffBack", fn := fun _ => fun
  | [d1, d2] => { results := [.lit (.bool true)], args := [d1, d2] }
  | _ => none }
def diffBackRow : OpenClaim := { program := "ytdomipmfghnfaaa", sum := "cb33bf20db49dd209f980d13d7bb1eaa5b5012ae3c1e944f66e5a1bfb4864423", func := "vendmeter/vendmeterkeep.DiffBack", spec := "diffBack", unfollowed := true, recurses := true, apart := false }
def DiffBackSaid : Prop := diffBackRow.holds Try.pinned (OpenSpec.ofChange diffBackSpec)

/-- ITS FALSE NEIGHBOUR: 'it returns false'. Refute it at one input. -/
def diffBackWrong : ChangeSpec := { name := "diffBack", fn := fun _ => fun
  | [d1, d2] => { results := [.lit (.bool false)], args := [d1, d2] }
  | _ => none }
def DiffBackWrongFalsely : Prop := diffBackRow.holds Try.pinned (OpenSpec.ofChange diffBackWrong)

/-- 'vendmeterkeep.DebtFirst': WHATEVER THE INPUT: true; the input reads as it did. -/
def debtFirstSpec : ChangeSpec := { name := "debtFirst", fn := fun _ => fun
  | [d1, d2, d3] => { results := [.lit (.bool true)], args := [d1, d2, d3] }
  | _ => none }
def debtFirstRow : OpenClaim := { program := "ytdomipmfghnfaaa", sum := "cb33bf20db49dd209f980d13d7bb1eaa5b5012ae3c1e944f66e5a1bfb4864423", func := "vendmeter/vendmeterkeep.DebtFirst", spec := "debtFirst", apart := false }
def DebtFirstSaid : Prop := debtFirstRow.holds Try.pinned (OpenSpec.ofChange debtFirstSpec)

/-- ITS FALSE NEIGHBOUR: 'it returns false'. Refute it at one input. -/
def debtFirstWrong : ChangeSpec := { name := "debtFirst", fn := fun _ => fun
  | [d1, d2, d3] => { results := [.lit (.bool false)], args := [d1, d2, d3] }
  | _ => none }
def DebtFirstWrongFalsely : Prop := debtFirstRow.holds Try.pinned (OpenSpec.ofChange debtFirstWrong)

/-- 'vendmeterkeep.CheckOne': WHATEVER THE INPUT: true; the input reads as it did. -/
def checkOneSpec : ChangeSpec := { name := "checkOne", fn := fun _ => fun
  | [d] => { results := [.lit (.bool true)], args := [d] }
  | _ => none }
def checkOneRow : OpenClaim := { program := "ytdomipmfghnfaaa", sum := "cb33bf20db49dd209f980d13d7bb1eaa5b5012ae3c1e944f66e5a1bfb4864423", func := "vendmeter/vendmeterkeep.CheckOne", spec := "checkOne", apart := false }
def CheckOneSaid : Prop := checkOneRow.holds Try.pinned (OpenSpec.ofChange checkOneSpec)

/-- ITS FALSE NEIGHBOUR: 'it returns false'. Refute it at one input. -/
def checkOneWrong : ChangeSpec := { name := "checkOne", fn := fun _ => fun
  | [d] => { results := [.lit (.bool false)], args := [d] }
  | _ => none }
def CheckOneWrongFalsely : Prop := checkOneRow.holds Try.pinned (OpenSpec.ofChange checkOneWrong)

/- THE SECOND FORM. 'bulk': how many values and letters a reading holds, each counted each time it is reached (what is shared counts as often as it is met; a slice's spare places count too). A statement '..UptoSaid' is the law's where the arguments, and the package variables that the reading takes, are together of bulk at most 1048576: NARROWER than '..Said'. Prove '..Said' where nothing that the law and all that it calls make is longer than what came in: it says more and counts as full. Else prove '..UptoSaid'. A law counts once. -/
mutual
def uptoBulk {H : Type} : DataW H → Nat
  | .lit (.string bytes) => bytes.length + 1
  | .lit _ => 1
  | .nil => 1
  | .ptr d => uptoBulk d + 1
  | .slice elems spare => uptoBulkAll elems + uptoBulkAll spare + 1
  | .agg parts => uptoBulkAll parts + 1
  | .iface _ d => uptoBulk d + 1
  | .map entries => uptoBulkEntries entries + 1
  | .held _ => 1
def uptoBulkAll {H : Type} : List (DataW H) → Nat
  | [] => 0
  | d :: r => uptoBulk d + uptoBulkAll r
def uptoBulkEntries {H : Type} : List (Lit × DataW H) → Nat
  | [] => 0
  | x :: r => uptoBulkEntry x + uptoBulkEntries r
def uptoBulkEntry {H : Type} : Lit × DataW H → Nat
  | (.string bytes, d) => bytes.length + uptoBulk d + 1
  | (_, d) => uptoBulk d + 1
 end
def uptoSmall : (H : Type) → List (DataW H) → Bool := fun _ ds => decide (uptoBulkAll ds ≤ 1048576)
def OpenSpec.upto (s : _root_.Go.ChangeSpec) : _root_.Go.OpenSpec := { _root_.Go.OpenSpec.ofChange s with cond := some uptoSmall }

/-- 'vendmeterkeep.CalWeeks', WHERE WHAT IT READS IS OF BULK AT MOST 1048576: true; the input reads as it did. -/
def calWeeksUptoRow : OpenClaim := { program := "ytdomipmfghnfaaa", sum := "cb33bf20db49dd209f980d13d7bb1eaa5b5012ae3c1e944f66e5a1bfb4864423", func := "vendmeter/vendmeterkeep.CalWeeks", spec := "calWeeks", apart := false, narrowed := true }
def CalWeeksUptoSaid : Prop := calWeeksUptoRow.holds Try.pinned (OpenSpec.upto calWeeksSpec)

/-- 'vendmeterkeep.PartSplits', WHERE WHAT IT READS IS OF BULK AT MOST 1048576: true; the input reads as it did. -/
def partSplitsUptoRow : OpenClaim := { program := "ytdomipmfghnfaaa", sum := "cb33bf20db49dd209f980d13d7bb1eaa5b5012ae3c1e944f66e5a1bfb4864423", func := "vendmeter/vendmeterkeep.PartSplits", spec := "partSplits", apart := false, narrowed := true }
def PartSplitsUptoSaid : Prop := partSplitsUptoRow.holds Try.pinned (OpenSpec.upto partSplitsSpec)

/-- 'vendmeterkeep.RestSlip', WHERE WHAT IT READS IS OF BULK AT MOST 1048576: true; the input reads as it did. -/
def restSlipUptoRow : OpenClaim := { program := "ytdomipmfghnfaaa", sum := "cb33bf20db49dd209f980d13d7bb1eaa5b5012ae3c1e944f66e5a1bfb4864423", func := "vendmeter/vendmeterkeep.RestSlip", spec := "restSlip", apart := false, narrowed := true }
def RestSlipUptoSaid : Prop := restSlipUptoRow.holds Try.pinned (OpenSpec.upto restSlipSpec)

/-- 'vendmeterkeep.RestSwaps', WHERE WHAT IT READS IS OF BULK AT MOST 1048576: true; the input reads as it did. -/
def restSwapsUptoRow : OpenClaim := { program := "ytdomipmfghnfaaa", sum := "cb33bf20db49dd209f980d13d7bb1eaa5b5012ae3c1e944f66e5a1bfb4864423", func := "vendmeter/vendmeterkeep.RestSwaps", spec := "restSwaps", apart := false, narrowed := true }
def RestSwapsUptoSaid : Prop := restSwapsUptoRow.holds Try.pinned (OpenSpec.upto restSwapsSpec)

/-- 'vendmeterkeep.RestJoins', WHERE WHAT IT READS IS OF BULK AT MOST 1048576: true; the input reads as it did. -/
def restJoinsUptoRow : OpenClaim := { program := "ytdomipmfghnfaaa", sum := "cb33bf20db49dd209f980d13d7bb1eaa5b5012ae3c1e944f66e5a1bfb4864423", func := "vendmeter/vendmeterkeep.RestJoins", spec := "restJoins", apart := false, narrowed := true }
def RestJoinsUptoSaid : Prop := restJoinsUptoRow.holds Try.pinned (OpenSpec.upto restJoinsSpec)

/-- 'vendmeterkeep.TimesTurns', WHERE WHAT IT READS IS OF BULK AT MOST 1048576: true; the input reads as it did. -/
def timesTurnsUptoRow : OpenClaim := { program := "ytdomipmfghnfaaa", sum := "cb33bf20db49dd209f980d13d7bb1eaa5b5012ae3c1e944f66e5a1bfb4864423", func := "vendmeter/vendmeterkeep.TimesTurns", spec := "timesTurns", unfollowed := true, recurses := true, apart := false, narrowed := true }
def TimesTurnsUptoSaid : Prop := timesTurnsUptoRow.holds Try.pinned (OpenSpec.upto timesTurnsSpec)

/-- 'vendmeterkeep.ApplyStep', WHERE WHAT IT READS IS OF BULK AT MOST 1048576: true; the input reads as it did. -/
def applyStepUptoRow : OpenClaim := { program := "ytdomipmfghnfaaa", sum := "cb33bf20db49dd209f980d13d7bb1eaa5b5012ae3c1e944f66e5a1bfb4864423", func := "vendmeter/vendmeterkeep.ApplyStep", spec := "applyStep", unfollowed := true, recurses := true, apart := false, narrowed := true }
def ApplyStepUptoSaid : Prop := applyStepUptoRow.holds Try.pinned (OpenSpec.upto applyStepSpec)

/-- 'vendmeterkeep.CheckGroup', WHERE WHAT IT READS IS OF BULK AT MOST 1048576: true; the input reads as it did. -/
def checkGroupUptoRow : OpenClaim := { program := "ytdomipmfghnfaaa", sum := "cb33bf20db49dd209f980d13d7bb1eaa5b5012ae3c1e944f66e5a1bfb4864423", func := "vendmeter/vendmeterkeep.CheckGroup", spec := "checkGroup", unfollowed := true, recurses := true, apart := false, narrowed := true }
def CheckGroupUptoSaid : Prop := checkGroupUptoRow.holds Try.pinned (OpenSpec.upto checkGroupSpec)

/-- 'vendmeterkeep.DebtSteps', WHERE WHAT IT READS IS OF BULK AT MOST 1048576: true; the input reads as it did. -/
def debtStepsUptoRow : OpenClaim := { program := "ytdomipmfghnfaaa", sum := "cb33bf20db49dd209f980d13d7bb1eaa5b5012ae3c1e944f66e5a1bfb4864423", func := "vendmeter/vendmeterkeep.DebtSteps", spec := "debtSteps", apart := false, narrowed := true }
def DebtStepsUptoSaid : Prop := debtStepsUptoRow.holds Try.pinned (OpenSpec.upto debtStepsSpec)

/-- 'vendmeterkeep.DiffBack', WHERE WHAT IT READS IS OF BULK AT MOST 1048576: true; the input reads as it did. -/
def diffBackUptoRow : OpenClaim := { program := "ytdomipmfghnfaaa", sum := "cb33bf20db49dd209f980d13d7bb1eaa5b5012ae3c1e944f66e5a1bfb4864423", func := "vendmeter/vendmeterkeep.DiffBack", spec := "diffBack", unfollowed := true, recurses := true, apart := false, narrowed := true }
def DiffBackUptoSaid : Prop := diffBackUptoRow.holds Try.pinned (OpenSpec.upto diffBackSpec)

/-- 'vendmeterkeep.DebtFirst', WHERE WHAT IT READS IS OF BULK AT MOST 1048576: true; the input reads as it did. -/
def debtFirstUptoRow : OpenClaim := { program := "ytdomipmfghnfaaa", sum := "cb33bf20db49dd209f980d13d7bb1eaa5b5012ae3c1e944f66e5a1bfb4864423", func := "vendmeter/vendmeterkeep.DebtFirst", spec := "debtFirst", apart := false, narrowed := true }
def DebtFirstUptoSaid : Prop := debtFirstUptoRow.holds Try.pinned (OpenSpec.upto debtFirstSpec)

/-- 'vendmeterkeep.CheckOne', WHERE WHAT IT READS IS OF BULK AT MOST 1048576: true; the input reads as it did. -/
def checkOneUptoRow : OpenClaim := { program := "ytdomipmfghnfaaa", sum := "cb33bf20db49dd209f980d13d7bb1eaa5b5012ae3c1e944f66e5a1bfb4864423", func := "vendmeter/vendmeterkeep.CheckOne", spec := "checkOne", apart := false, narrowed := true }
def CheckOneUptoSaid : Prop := checkOneUptoRow.holds Try.pinned (OpenSpec.upto checkOneSpec)

end Rows
end Go.Proofs.Ytdomipmfghnfaaa
