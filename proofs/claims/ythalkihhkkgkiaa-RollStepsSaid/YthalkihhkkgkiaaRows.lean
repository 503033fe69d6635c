/-
  No cell of these rows narrows 'for every input' (looked for: loops, veiled, ifaces, maps, wideKeys, modest, calm, conditions, laid).
  DERIVED. THE GIVEN ROWS OF THIS SEAT. 8 by the template 'for every input the law returns true; each argument reads behind the call as it read before'; 0 by the template 'total and deterministic' (their statements: YthalkihhkkgkiaaTotals.lean).
  GIVEN WITH THE SEED: the statements are not yours to turn. If you find one false, say at which input.
  Laid BY PROGRAM, IN A SANDBOX (cutbox-rows.mjs): the forced cells as the released guide's own fill.sh prints them over the translation 7141018370357592… (all of the seat's roots in one cut). By AI agents, Wed Nov 11 2026. No macro, syntax, notation, axiom, sorry.
-/
import Derived.Test.YthalkihhkkgkiaaChecked
import GoSem.Claim
import GoSem.ClaimJoined
import GoSem.ClaimMapViews
import Derived.JoinedTies
import Derived.KernelRfl
namespace Go.Proofs.Ythalkihhkkgkiaa
/- THE CELL 'sum', in the pinned program and in every row, IS THE sha256 OF THE DUMP (.gsa) THAT YthalkihhkkgkiaaProg.lean LOADS. Nothing in Lean hashes anything: it is a label: what it is worth is what the hold of that sum in a sandbox is worth. -/
noncomputable def Try.pinned : Pinned := { name := "ythalkihhkkgkiaa", sum := "7141018370357592833c9c3bfbd1ca8b47a173920780839bfa47961bb46e84cb", checked := Try.checked }
namespace Rows
def none {H : Type} : Left H := { results := [], args := [] }

/-- 'vendmeterkeep.SlotBack': WHATEVER THE INPUT: true; the input reads as it did. -/
def slotBackSpec : ChangeSpec := { name := "slotBack", fn := fun _ => fun
  | [d1, d2] => { results := [.lit (.bool true)], args := [d1, d2] }
  | _ => none }
def slotBackRow : OpenClaim := { program := "ythalkihhkkgkiaa", sum := "7141018370357592833c9c3bfbd1ca8b47a173920780839bfa47961bb46e84cb", func := "vendmeter/vendmeterkeep.SlotBack", spec := "slotBack", unfollowed := true, recurses := true, apart := false }
def SlotBackSaid : Prop := slotBackRow.holds Try.pinned (OpenSpec.ofChange slotBackSpec)

/-- ITS FALSE NEIGHBOUR: 'it returns false'. Refute it at one input. -/
def slotBackWrong : ChangeSpec := { name := "slotBack", fn := fun _ => fun
  | [d1, d2] => { results := [.lit (.bool false)], args := [d1, d2] }
  | _ => none }
def SlotBackWrongFalsely : Prop := slotBackRow.holds Try.pinned (OpenSpec.ofChange slotBackWrong)

/-- 'vendmeterkeep.SlotCut': WHATEVER THE INPUT: true; the input reads as it did. -/
def slotCutSpec : ChangeSpec := { name := "slotCut", fn := fun _ => fun
  | [d1, d2, d3, d4] => { results := [.lit (.bool true)], args := [d1, d2, d3, d4] }
  | _ => none }
def slotCutRow : OpenClaim := { program := "ythalkihhkkgkiaa", sum := "7141018370357592833c9c3bfbd1ca8b47a173920780839bfa47961bb46e84cb", func := "vendmeter/vendmeterkeep.SlotCut", spec := "slotCut", unfollowed := true, recurses := true, apart := false }
def SlotCutSaid : Prop := slotCutRow.holds Try.pinned (OpenSpec.ofChange slotCutSpec)

/-- ITS FALSE NEIGHBOUR: 'it returns false'. Refute it at one input. -/
def slotCutWrong : ChangeSpec := { name := "slotCut", fn := fun _ => fun
  | [d1, d2, d3, d4] => { results := [.lit (.bool false)], args := [d1, d2, d3, d4] }
  | _ => none }
def SlotCutWrongFalsely : Prop := slotCutRow.holds Try.pinned (OpenSpec.ofChange slotCutWrong)

/-- 'vendmeterkeep.SlotRetry': WHATEVER THE INPUT: true; the input reads as it did. -/
def slotRetrySpec : ChangeSpec := { name := "slotRetry", fn := fun _ => fun
  | [d1, d2, d3, d4] => { results := [.lit (.bool true)], args := [d1, d2, d3, d4] }
  | _ => none }
def slotRetryRow : OpenClaim := { program := "ythalkihhkkgkiaa", sum := "7141018370357592833c9c3bfbd1ca8b47a173920780839bfa47961bb46e84cb", func := "vendmeter/vendmeterkeep.SlotRetry", spec := "slotRetry", unfollowed := true, recurses := true, apart := false }
def SlotRetrySaid : Prop := slotRetryRow.holds Try.pinned (OpenSpec.ofChange slotRetrySpec)

/-- ITS FALSE NEIGHBOUR: 'it returns false'. Refute it at one input. -/
def slotRetryWrong : ChangeSpec := { name := "slotRetry", fn := fun _ => fun
  | [d1, d2, d3, d4] => { results := [.lit (.bool false)], args := [d1, d2, d3, d4] }
  | _ => none }
def SlotRetryWrongFalsely : Prop := slotRetryRow.holds Try.pinned (OpenSpec.ofChange slotRetryWrong)

/-- 'vendmeterkeep.TariffAdds': WHATEVER THE INPUT: true; the input reads as it did. -/
def tariffAddsSpec : ChangeSpec := { name := "tariffAdds", fn := fun _ => fun
  | [d1, d2, d3, d4] => { results := [.lit (.bool true)], args := [d1, d2, d3, d4] }
  | _ => none }
def tariffAddsRow : OpenClaim := { program := "ythalkihhkkgkiaa", sum := "7141018370357592833c9c3bfbd1ca8b47a173920780839bfa47961bb46e84cb", func := "vendmeter/vendmeterkeep.TariffAdds", spec := "tariffAdds", inPlace := ["internal/reflectlite.ValueOf", "(internal/reflectlite.Value).Len"], unfollowed := true, recurses := true, apart := false }
def TariffAddsSaid : Prop := tariffAddsRow.holds Try.pinned (OpenSpec.ofChange tariffAddsSpec)

/-- ITS FALSE NEIGHBOUR: 'it returns false'. Refute it at one input. -/
def tariffAddsWrong : ChangeSpec := { name := "tariffAdds", fn := fun _ => fun
  | [d1, d2, d3, d4] => { results := [.lit (.bool false)], args := [d1, d2, d3, d4] }
  | _ => none }
def TariffAddsWrongFalsely : Prop := tariffAddsRow.holds Try.pinned (OpenSpec.ofChange tariffAddsWrong)

/-- 'vendmeterkeep.TariffRises': WHATEVER THE INPUT: true; the input reads as it did. -/
def tariffRisesSpec : ChangeSpec := { name := "tariffRises", fn := fun _ => fun
  | [d1, d2, d3] => { results := [.lit (.bool true)], args := [d1, d2, d3] }
  | _ => none }
def tariffRisesRow : OpenClaim := { program := "ythalkihhkkgkiaa", sum := "7141018370357592833c9c3bfbd1ca8b47a173920780839bfa47961bb46e84cb", func := "vendmeter/vendmeterkeep.TariffRises", spec := "tariffRises", inPlace := ["internal/reflectlite.ValueOf", "(internal/reflectlite.Value).Len"], unfollowed := true, recurses := true, apart := false }
def TariffRisesSaid : Prop := tariffRisesRow.holds Try.pinned (OpenSpec.ofChange tariffRisesSpec)

/-- ITS FALSE NEIGHBOUR: 'it returns false'. Refute it at one input. -/
def tariffRisesWrong : ChangeSpec := { name := "tariffRises", fn := fun _ => fun
  | [d1, d2, d3] => { results := [.lit (.bool false)], args := [d1, d2, d3] }
  | _ => none }
def TariffRisesWrongFalsely : Prop := tariffRisesRow.holds Try.pinned (OpenSpec.ofChange tariffRisesWrong)

/-- 'vendmeterkeep.TariffLines': WHATEVER THE INPUT: true; the input reads as it did. -/
def tariffLinesSpec : ChangeSpec := { name := "tariffLines", fn := fun _ => fun
  | [d1, d2, d3] => { results := [.lit (.bool true)], args := [d1, d2, d3] }
  | _ => none }
def tariffLinesRow : OpenClaim := { program := "ythalkihhkkgkiaa", sum := "7141018370357592833c9c3bfbd1ca8b47a173920780839bfa47961bb46e84cb", func := "vendmeter/vendmeterkeep.TariffLines", spec := "tariffLines", inPlace := ["internal/reflectlite.ValueOf", "(internal/reflectlite.Value).Len"], unfollowed := true, recurses := true, apart := false }
def TariffLinesSaid : Prop := tariffLinesRow.holds Try.pinned (OpenSpec.ofChange tariffLinesSpec)

/-- ITS FALSE NEIGHBOUR: 'it returns false'. Refute it at one input. -/
def tariffLinesWrong : ChangeSpec := { name := "tariffLines", fn := fun _ => fun
  | [d1, d2, d3] => { results := [.lit (.bool false)], args := [d1, d2, d3] }
  | _ => none }
def TariffLinesWrongFalsely : Prop := tariffLinesRow.holds Try.pinned (OpenSpec.ofChange tariffLinesWrong)

/-- 'vendmeterkeep.TariffMost': WHATEVER THE INPUT: true; the input reads as it did. -/
def tariffMostSpec : ChangeSpec := { name := "tariffMost", fn := fun _ => fun
  | [d1, d2, d3] => { results := [.lit (.bool true)], args := [d1, d2, d3] }
  | _ => none }
def tariffMostRow : OpenClaim := { program := "ythalkihhkkgkiaa", sum := "7141018370357592833c9c3bfbd1ca8b47a173920780839bfa47961bb46e84cb", func := "vendmeter/vendmeterkeep.TariffMost", spec := "tariffMost", inPlace := ["internal/reflectlite.ValueOf", "(internal/reflectlite.Value).Len"], unfollowed := true, recurses := true, apart := false }
def TariffMostSaid : Prop := tariffMostRow.holds Try.pinned (OpenSpec.ofChange tariffMostSpec)

/-- ITS FALSE NEIGHBOUR: 'it returns false'. Refute it at one input. -/
def tariffMostWrong : ChangeSpec := { name := "tariffMost", fn := fun _ => fun
  | [d1, d2, d3] => { results := [.lit (.bool false)], args := [d1, d2, d3] }
  | _ => none }
def TariffMostWrongFalsely : Prop := tariffMostRow.holds Try.pinned (OpenSpec.ofChange tariffMostWrong)

/-- 'vendmeterkeep.RollSteps': WHATEVER THE INPUT: true; the input reads as it did. -/
def rollStepsSpec : ChangeSpec := { name := "rollSteps", fn := fun _ => fun
  | [d1, d2, d3] => { results := [.lit (.bool true)], args := [d1, d2, d3] }
  | _ => none }
def rollStepsRow : OpenClaim := { program := "ythalkihhkkgkiaa", sum := "7141018370357592833c9c3bfbd1ca8b47a173920780839bfa47961bb46e84cb", func := "vendmeter/vendmeterkeep.RollSteps", spec := "rollSteps", inPlace := ["internal/reflectlite.ValueOf", "(internal/reflectlite.Value).Len"], unfollowed := true, recurses := true, apart := false }
def RollStepsSaid : Prop := rollStepsRow.holds Try.pinned (OpenSpec.ofChange rollStepsSpec)

/-- ITS FALSE NEIGHBOUR: 'it returns false'. Refute it at one input. -/
def rollStepsWrong : ChangeSpec := { name := "rollSteps", fn := fun _ => fun
  | [d1, d2, d3] => { results := [.lit (.bool false)], args := [d1, d2, d3] }
  | _ => none }
def RollStepsWrongFalsely : Prop := rollStepsRow.holds Try.pinned (OpenSpec.ofChange rollStepsWrong)

/- THE SECOND FORM. 'bulk': how many values and letters a reading holds, each counted each time it is reached (what is shared counts as often as it is met; a slice's spare places count too). A statement '..UptoSaid' is the law's where the arguments, and the package variables that the reading takes, are together of bulk at most 1048576: NARROWER than '..Said'. Prove '..Said' where nothing that the law and all that it calls make is longer than what came in: it says more and counts as full. Else prove '..UptoSaid'. A law counts once. -/
mutual
def uptoBulk {H : Type} : DataW H → Nat
  | .lit (.string bytes) => bytes.length + 1
  | .lit _ => 1
  | .nil => 1
  | .ptr d => uptoBulk d + 1
  | .slice elems spare => uptoBulkAll elems + uptoBulkAll spare + 1
  | .agg parts => uptoBulkAll parts + 1
  | .iface _ d => uptoBulk d + 1
  | .map entries => uptoBulkEntries entries + 1
  | .held _ => 1
def uptoBulkAll {H : Type} : List (DataW H) → Nat
  | [] => 0
  | d :: r => uptoBulk d + uptoBulkAll r
def uptoBulkEntries {H : Type} : List (Lit × DataW H) → Nat
  | [] => 0
  | x :: r => uptoBulkEntry x + uptoBulkEntries r
def uptoBulkEntry {H : Type} : Lit × DataW H → Nat
  | (.string bytes, d) => bytes.length + uptoBulk d + 1
  | (_, d) => uptoBulk d + 1
 end
def uptoSmall : (H : Type) → List (DataW H) → Bool := fun _ ds => decide (uptoBulkAll ds ≤ 1048576)
def OpenSpec.upto (s : _root_.Go.ChangeSpec) : _root_.Go.OpenSpec := { _root_.Go.OpenSpec.ofChange s with cond := some uptoSmall }

/-- 'vendmeterkeep.SlotBack', WHERE WHAT IT READS IS OF BULK AT MOST 1048576: true; the input reads as it did. -/
def slotBackUptoRow : OpenClaim := { program := "ythalkihhkkgkiaa", sum := "7141018370357592833c9c3bfbd1ca8b47a173920780839bfa47961bb46e84cb", func := "vendmeter/vendmeterkeep.SlotBack", spec := "slotBack", unfollowed := true, recurses := true, apart := false, narrowed := true }
def SlotBackUptoSaid : Prop := slotBackUptoRow.holds Try.pinned (OpenSpec.upto slotBackSpec)

/-- 'vendmeterkeep.SlotCut', WHERE WHAT IT READS IS OF BULK AT MOST 1048576: true; the input reads as it did. -/
def slotCutUptoRow : OpenClaim := { program := "ythalkihhkkgkiaa", sum := "7141018370357592833c9c3bfbd1ca8b47a173920780839bfa47961bb46e84cb", func := "vendmeter/vendmeterkeep.SlotCut", spec := "slotCut", unfollowed := true, recurses := true, apart := false, narrowed := true }
def SlotCutUptoSaid : Prop := slotCutUptoRow.holds Try.pinned (OpenSpec.upto slotCutSpec)

/-- 'vendmeterkeep.SlotRetry', WHERE WHAT IT READS IS OF BULK AT MOST 1048576: true; the input reads as it did. -/
def slotRetryUptoRow : OpenClaim := { program := "ythalkihhkkgkiaa", sum := "7141018370357592833c9c3bfbd1ca8b47a173920780839bfa47961bb46e84cb", func := "vendmeter/vendmeterkeep.SlotRetry", spec := "slotRetry", unfollowed := true, recurses := true, apart := false, narrowed := true }
def SlotRetryUptoSaid : Prop := slotRetryUptoRow.holds Try.pinned (OpenSpec.upto slotRetrySpec)

/-- 'vendmeterkeep.TariffAdds', WHERE WHAT IT READS IS OF BULK AT MOST 1048576: true; the input reads as it did. -/
def tariffAddsUptoRow : OpenClaim := { program := "ythalkihhkkgkiaa", sum := "7141018370357592833c9c3bfbd1ca8b47a173920780839bfa47961bb46e84cb", func := "vendmeter/vendmeterkeep.TariffAdds", spec := "tariffAdds", inPlace := ["internal/reflectlite.ValueOf", "(internal/reflectlite.Value).Len"], unfollowed := true, recurses := true, apart := false, narrowed := true }
def TariffAddsUptoSaid : Prop := tariffAddsUptoRow.holds Try.pinned (OpenSpec.upto tariffAddsSpec)

/-- 'vendmeterkeep.TariffRises', WHERE WHAT IT READS IS OF BULK AT MOST 1048576: true; the input reads as it did. -/
def tariffRisesUptoRow : OpenClaim := { program := "ythalkihhkkgkiaa", sum := "7141018370357592833c9c3bfbd1ca8b47a173920780839bfa47961bb46e84cb", func := "vendmeter/vendmeterkeep.TariffRises", spec := "tariffRises", inPlace := ["internal/reflectlite.ValueOf", "(internal/reflectlite.Value).Len"], unfollowed := true, recurses := true, apart := false, narrowed := true }
def TariffRisesUptoSaid : Prop := tariffRisesUptoRow.holds Try.pinned (OpenSpec.upto tariffRisesSpec)

/-- 'vendmeterkeep.TariffLines', WHERE WHAT IT READS IS OF BULK AT MOST 1048576: true; the input reads as it did. -/
def tariffLinesUptoRow : OpenClaim := { program := "ythalkihhkkgkiaa", sum := "7141018370357592833c9c3bfbd1ca8b47a173920780839bfa47961bb46e84cb", func := "vendmeter/vendmeterkeep.TariffLines", spec := "tariffLines", inPlace := ["internal/reflectlite.ValueOf", "(internal/reflectlite.Value).Len"], unfollowed := true, recurses := true, apart := false, narrowed := true }
def TariffLinesUptoSaid : Prop := tariffLinesUptoRow.holds Try.pinned (OpenSpec.upto tariffLinesSpec)

/-- 'vendmeterkeep.TariffMost', WHERE WHAT IT READS IS OF BULK AT MOST 1048576: true; the input reads as it did. -/
def tariffMostUptoRow : OpenClaim := { program := "ythalkihhkkgkiaa", sum := "7141018370357592833c9c3bfbd1ca8b47a173920780839bfa47961bb46e84cb", func := "vendmeter/vendmeterkeep.TariffMost", spec := "tariffMost", inPlace := ["internal/reflectlite.ValueOf", "(internal/reflectlite.Value).Len"], unfollowed := true, recurses := true, apart := false, narrowed := true }
def TariffMostUptoSaid : Prop := tariffMostUptoRow.holds Try.pinned (OpenSpec.upto tariffMostSpec)

/-- 'vendmeterkeep.RollSteps', WHERE WHAT IT READS IS OF BULK AT MOST 1048576: true; the input reads as it did. -/
def rollStepsUptoRow : OpenClaim := { program := "ythalkihhkkgkiaa", sum := "7141018370357592833c9c3bfbd1ca8b47a173920780839bfa47961bb46e84cb", func := "vendmeter/vendmeterkeep.RollSteps", spec := "rollSteps", inPlace := ["internal/reflectlite.ValueOf", "(internal/reflectlite.Value).Len"], unfollowed := true, recurses := true, apart := false, narrowed := true }
def RollStepsUptoSaid : Prop := rollStepsUptoRow.holds Try.pinned (OpenSpec.upto rollStepsSpec)

end Rows
end Go.Proofs.Ythalkihhkkgkiaa
