/-
  No cell of these rows narrows 'for every input' (looked for: loops, veiled, ifaces, maps, wideKeys, modest, calm, conditions, laid).
  DERIVED. THE GIVEN ROWS OF THIS SEAT. 12 by the template 'for every input the law returns true; each argument reads behind the call as it read before'; 0 by the template 'total and deterministic' (their statements: YtjlihpbnhojdgaaTotals.lean).
  GIVEN WITH THE SEED: the statements are not yours to turn. If you find one false, say at which input.
  Laid BY PROGRAM, IN A SANDBOX (cutbox-rows.mjs): the forced cells as the released guide's own fill.sh prints them over the translation 5985722f05a14c52… (all of the seat's roots in one cut). By AI agents, Wed Nov 11 2026. No macro, syntax, notation, axiom, sorry.
-/
import Derived.Test.YtjlihpbnhojdgaaChecked
import GoSem.Claim
import GoSem.ClaimJoined
import GoSem.ClaimMapViews
import Derived.JoinedTies
import Derived.KernelRfl
namespace Go.Proofs.Ytjlihpbnhojdgaa
/- THE CELL 'sum', in the pinned program and in every row, IS THE sha256 OF THE DUMP (.gsa) THAT YtjlihpbnhojdgaaProg.lean LOADS. Nothing in Lean hashes anything: it is a label: what it is worth is what the hold of that sum in a sandbox is worth. -/
noncomputable def Try.pinned : Pinned := { name := "ytjlihpbnhojdgaa", sum := "5985722f05a14c525c740c35db0555ae76335d134ecbd797e5c53ef13560fa86", checked := Try.checked }
namespace Rows
def none {H : Type} : Left H := { results := [], args := [] }

/-- 'vendmeterkeep.WindowKnows': WHATEVER THE INPUT: true; the input reads as it did. -/
def windowKnowsSpec : ChangeSpec := { name := "windowKnows", fn := fun _ => fun
  | [d] => { results := [.lit (.bool true)], args := [d] }
  | _ => none }
def windowKnowsRow : OpenClaim := { program := "ytjlihpbnhojdgaa", sum := "5985722f05a14c525c740c35db0555ae76335d134ecbd797e5c53ef13560fa86", func := "vendmeter/vendmeterkeep.WindowKnows", spec := "windowKnows", apart := false }
def WindowKnowsSaid : Prop := windowKnowsRow.holds Try.pinned (OpenSpec.ofChange windowKnowsSpec)

/-- ITS FALSE NEIGHBOUR: 'it returns false'. Refute it at one input. -/
def windowKnowsWrong : ChangeSpec := { name := "windowKnows", fn := fun _ => fun
  | [d] => { results := [.lit (.bool false)], args := [d] }
  | _ => none }
def WindowKnowsWrongFalsely : Prop := windowKnowsRow.holds Try.pinned (OpenSpec.ofChange windowKnowsWrong)

/-- 'vendmeterkeep.MeterBack': WHATEVER THE INPUT: true; the input reads as it did. -/
def meterBackSpec : ChangeSpec := { name := "meterBack", fn := fun _ => fun
  | [d] => { results := [.lit (.bool true)], args := [d] }
  | _ => none }
def meterBackRow : OpenClaim := { program := "ytjlihpbnhojdgaa", sum := "5985722f05a14c525c740c35db0555ae76335d134ecbd797e5c53ef13560fa86", func := "vendmeter/vendmeterkeep.MeterBack", spec := "meterBack", apart := false }
def MeterBackSaid : Prop := meterBackRow.holds Try.pinned (OpenSpec.ofChange meterBackSpec)

/-- ITS FALSE NEIGHBOUR: 'it returns false'. Refute it at one input. -/
def meterBackWrong : ChangeSpec := { name := "meterBack", fn := fun _ => fun
  | [d] => { results := [.lit (.bool false)], args := [d] }
  | _ => none }
def MeterBackWrongFalsely : Prop := meterBackRow.holds Try.pinned (OpenSpec.ofChange meterBackWrong)

/-- 'vendmeterkeep.MeterFixed': WHATEVER THE INPUT: true; the input reads as it did. -/
def meterFixedSpec : ChangeSpec := { name := "meterFixed", fn := fun _ => fun
  | [d] => { results := [.lit (.bool true)], args := [d] }
  | _ => none }
def meterFixedRow : OpenClaim := { program := "ytjlihpbnhojdgaa", sum := "5985722f05a14c525c740c35db0555ae76335d134ecbd797e5c53ef13560fa86", func := "vendmeter/vendmeterkeep.MeterFixed", spec := "meterFixed", apart := false }
def MeterFixedSaid : Prop := meterFixedRow.holds Try.pinned (OpenSpec.ofChange meterFixedSpec)

/-- ITS FALSE NEIGHBOUR: 'it returns false'. Refute it at one input. -/
def meterFixedWrong : ChangeSpec := { name := "meterFixed", fn := fun _ => fun
  | [d] => { results := [.lit (.bool false)], args := [d] }
  | _ => none }
def MeterFixedWrongFalsely : Prop := meterFixedRow.holds Try.pinned (OpenSpec.ofChange meterFixedWrong)

/-- 'vendmeterkeep.CmpPlus': WHATEVER THE INPUT: true; the input reads as it did. -/
def cmpPlusSpec : ChangeSpec := { name := "cmpPlus", fn := fun _ => fun
  | [d1, d2] => { results := [.lit (.bool true)], args := [d1, d2] }
  | _ => none }
def cmpPlusRow : OpenClaim := { program := "ytjlihpbnhojdgaa", sum := "5985722f05a14c525c740c35db0555ae76335d134ecbd797e5c53ef13560fa86", func := "vendmeter/vendmeterkeep.CmpPlus", spec := "cmpPlus", unfollowed := true, recurses := true, apart := false }
def CmpPlusSaid : Prop := cmpPlusRow.holds Try.pinned (OpenSpec.ofChange cmpPlusSpec)

/-- ITS FALSE NEIGHBOUR: 'it returns false'. Refute it at one input. -/
def cmpPlusWrong : ChangeSpec := { name := "cmpPlus", fn := fun _ => fun
  | [d1, d2] => { results := [.lit (.bool false)], args := [d1, d2] }
  | _ => none }
def CmpPlusWrongFalsely : Prop := cmpPlusRow.holds Try.pinned (OpenSpec.ofChange cmpPlusWrong)

/-- 'vendmeterkeep.CalJoins': WHATEVER THE INPUT: true; the input reads as it did. -/
def calJoinsSpec : ChangeSpec := { name := "calJoins", fn := fun _ => fun
  | [d] => { results := [.lit (.bool true)], args := [d] }
  | _ => none }
def calJoinsRow : OpenClaim := { program := "ytjlihpbnhojdgaa", sum := "5985722f05a14c525c740c35db0555ae76335d134ecbd797e5c53ef13560fa86", func := "vendmeter/vendmeterkeep.CalJoins", spec := "calJoins", apart := false }
def CalJoinsSaid : Prop := calJoinsRow.holds Try.pinned (OpenSpec.ofChange calJoinsSpec)

/-- ITS FALSE NEIGHBOUR: 'it returns false'. Refute it at one input. -/
def calJoinsWrong : ChangeSpec := { name := "calJoins", fn := fun _ => fun
  | [d] => { results := [.lit (.bool false)], args := [d] }
  | _ => none }
def CalJoinsWrongFalsely : Prop := calJoinsRow.holds Try.pinned (OpenSpec.ofChange calJoinsWrong)

/-- 'vendmeterkeep.DebtEnds': WHATEVER THE INPUT: true; the input reads as it did. -/
def debtEndsSpec : ChangeSpec := { name := "debtEnds", fn := fun _ => fun
  | [d1, d2, d3] => { results := [.lit (.bool true)], args := [d1, d2, d3] }
  | _ => none }
def debtEndsRow : OpenClaim := { program := "ytjlihpbnhojdgaa", sum := "5985722f05a14c525c740c35db0555ae76335d134ecbd797e5c53ef13560fa86", func := "vendmeter/vendmeterkeep.DebtEnds", spec := "debtEnds", apart := false }
def DebtEndsSaid : Prop := debtEndsRow.holds Try.pinned (OpenSpec.ofChange debtEndsSpec)

/-- ITS FALSE NEIGHBOUR: 'it returns false'. Refute it at one input. -/
def debtEndsWrong : ChangeSpec := { name := "debtEnds", fn := fun _ => fun
  | [d1, d2, d3] => { results := [.lit (.bool false)], args := [d1, d2, d3] }
  | _ => none }
def DebtEndsWrongFalsely : Prop := debtEndsRow.holds Try.pinned (OpenSpec.ofChange debtEndsWrong)

/-- 'vendmeterkeep.DiskFull': WHATEVER THE INPUT: true; the input reads as it did. -/
def diskFullSpec : ChangeSpec := { name := "diskFull", fn := fun _ => fun
  | [d1, d2, d3] => { results := [.lit (.bool true)], args := [d1, d2, d3] }
  | _ => none }
def diskFullRow : OpenClaim := { program := "ytjlihpbnhojdgaa", sum := "5985722f05a14c525c740c35db0555ae76335d134ecbd797e5c53ef13560fa86", func := "vendmeter/vendmeterkeep.DiskFull", spec := "diskFull", unfollowed := true, recurses := true, apart := false }
def DiskFullSaid : Prop := diskFullRow.holds Try.pinned (OpenSpec.ofChange diskFullSpec)

/-- ITS FALSE NEIGHBOUR: 'it returns false'. Refute it at one input. -/
def diskFullWrong : ChangeSpec := { name := "diskFull", fn := fun _ => fun
  | [d1, d2, d3] => { results := [.lit (.bool false)], args := [d1, d2, d3] }
  | _ => none }
def DiskFullWrongFalsely : Prop := diskFullRow.holds Try.pinned (OpenSpec.ofChange diskFullWrong)

/-- 'vendmeterkeep.EventBack': WHATEVER THE INPUT: true; the input reads as it did. -/
def eventBackSpec : ChangeSpec := { name := "eventBack", fn := fun _ => fun
  | [d] => { results := [.lit (.bool true)], args := [d] }
  | _ => none }
def eventBackRow : OpenClaim := { program := "ytjlihpbnhojdgaa", sum := "5985722f05a14c525c740c35db0555ae76335d134ecbd797e5c53ef13560fa86", func := "vendmeter/vendmeterkeep.EventBack", spec := "eventBack", unfollowed := true, recurses := true, apart := false }
def EventBackSaid : Prop := eventBackRow.holds Try.pinned (OpenSpec.ofChange eventBackSpec)

/-- ITS FALSE NEIGHBOUR: 'it returns false'. Refute it at one input. -/
def eventBackWrong : ChangeSpec := { name := "eventBack", fn := fun _ => fun
  | [d] => { results := [.lit (.bool false)], args := [d] }
  | _ => none }
def EventBackWrongFalsely : Prop := eventBackRow.holds Try.pinned (OpenSpec.ofChange eventBackWrong)

/-- 'vendmeterkeep.EventFixed': WHATEVER THE INPUT: true; the input reads as it did. -/
def eventFixedSpec : ChangeSpec := { name := "eventFixed", fn := fun _ => fun
  | [d] => { results := [.lit (.bool true)], args := [d] }
  | _ => none }
def eventFixedRow : OpenClaim := { program := "ytjlihpbnhojdgaa", sum := "5985722f05a14c525c740c35db0555ae76335d134ecbd797e5c53ef13560fa86", func := "vendmeter/vendmeterkeep.EventFixed", spec := "eventFixed", unfollowed := true, recurses := true, apart := false }
def EventFixedSaid : Prop := eventFixedRow.holds Try.pinned (OpenSpec.ofChange eventFixedSpec)

/-- ITS FALSE NEIGHBOUR: 'it returns false'. Refute it at one input. -/
def eventFixedWrong : ChangeSpec := { name := "eventFixed", fn := fun _ => fun
  | [d] => { results := [.lit (.bool false)], args := [d] }
  | _ => none }
def EventFixedWrongFalsely : Prop := eventFixedRow.holds Try.pinned (OpenSpec.ofChange eventFixedWrong)

/-- 'vendmeterkeep.DiskBack': WHATEVER THE INPUT: true; the input reads as it did. -/
def diskBackSpec : ChangeSpec := { name := "diskBack", fn := fun _ => fun
  | [d1, d2] => { results := [.lit (.bool true)], args := [d1, d2] }
  | _ => none }
def diskBackRow : OpenClaim := { program := "ytjlihpbnhojdgaa", sum := "5985722f05a14c525c740c35db0555ae76335d134ecbd797e5c53ef13560fa86", func := "vendmeter/vendmeterkeep.DiskBack", spec := "diskBack", unfollowed := true, recurses := true, apart := false }
def DiskBackSaid : Prop := diskBackRow.holds Try.pinned (OpenSpec.ofChange diskBackSpec)

/-- ITS FALSE NEIGHBOUR: 'it returns false'. Refute it at one input. -/
def diskBackWrong : ChangeSpec := { name := "diskBack", fn := fun _ => fun
  | [d1, d2] => { results := [.lit (.bool false)], args := [d1, d2] }
  | _ => none }
def DiskBackWrongFalsely : Prop := diskBackRow.holds Try.pinned (OpenSpec.ofChange diskBackWrong)

/-- 'vendmeterkeep.DiskCut': WHATEVER THE INPUT: true; the input reads as it did. -/
def diskCutSpec : ChangeSpec := { name := "diskCut", fn := fun _ => fun
  | [d1, d2, d3] => { results := [.lit (.bool true)], args := [d1, d2, d3] }
  | _ => none }
def diskCutRow : OpenClaim := { program := "ytjlihpbnhojdgaa", sum := "5985722f05a14c525c740c35db0555ae76335d134ecbd797e5c53ef13560fa86", func := "vendmeter/vendmeterkeep.DiskCut", spec := "diskCut", unfollowed := true, recurses := true, apart := false }
def DiskCutSaid : Prop := diskCutRow.holds Try.pinned (OpenSpec.ofChange diskCutSpec)

/-- ITS FALSE NEIGHBOUR: 'it returns false'. Refute it at one input. -/
def diskCutWrong : ChangeSpec := { name := "diskCut", fn := fun _ => fun
  | [d1, d2, d3] => { results := [.lit (.bool false)], args := [d1, d2, d3] }
  | _ => none }
def DiskCutWrongFalsely : Prop := diskCutRow.holds Try.pinned (OpenSpec.ofChange diskCutWrong)

/-- 'vendmeterkeep.DiskRetry': WHATEVER THE INPUT: true; the input reads as it did. -/
def diskRetrySpec : ChangeSpec := { name := "diskRetry", fn := fun _ => fun
  | [d1, d2, d3, d4] => { results := [.lit (.bool true)], args := [d1, d2, d3, d4] }
  | _ => none }
def diskRetryRow : OpenClaim := { program := "ytjlihpbnhojdgaa", sum := "5985722f05a14c525c740c35db0555ae76335d134ecbd797e5c53ef13560fa86", func := "vendmeter/vendmeterkeep.DiskRetry", spec := "diskRetry", unfollowed := true, recurses := true, apart := false }
def DiskRetrySaid : Prop := diskRetryRow.holds Try.pinned (OpenSpec.ofChange diskRetrySpec)

/-- ITS FALSE NEIGHBOUR: 'it returns false'. Refute it at one input. -/
def diskRetryWrong : ChangeSpec := { name := "diskRetry", fn := fun _ => fun
  | [d1, d2, d3, d4] => { results := [.lit (.bool false)], args := [d1, d2, d3, d4] }
  | _ => none }
def DiskRetryWrongFalsely : Prop := diskRetryRow.holds Try.pinned (OpenSpec.ofChange diskRetryWrong)

/- THE SECOND FORM. 'bulk': how many values and letters a reading holds, each counted each time it is reached (what is shared counts as often as it is met; a slice's spare places count too). A statement '..UptoSaid' is the law's where the arguments, and the package variables that the reading takes, are together of bulk at most 1048576: NARROWER than '..Said'. Prove '..Said' where nothing that the law and all that it calls make is longer than what came in: it says more and counts as full. Else prove '..UptoSaid'. A law counts once. -/
mutual
def uptoBulk {H : Type} : DataW H → Nat
  | .lit (.string bytes) => bytes.length + 1
  | .lit _ => 1
  | .nil => 1
  | .ptr d => uptoBulk d + 1
  | .slice elems spare => uptoBulkAll elems + uptoBulkAll spare + 1
  | .agg parts => uptoBulkAll parts + 1
  | .iface _ d => uptoBulk d + 1
  | .map entries => uptoBulkEntries entries + 1
  | .held _ => 1
def uptoBulkAll {H : Type} : List (DataW H) → Nat
  | [] => 0
  | d :: r => uptoBulk d + uptoBulkAll r
def uptoBulkEntries {H : Type} : List (Lit × DataW H) → Nat
  | [] => 0
  | x :: r => uptoBulkEntry x + uptoBulkEntries r
def uptoBulkEntry {H : Type} : Lit × DataW H → Nat
  | (.string bytes, d) => bytes.length + uptoBulk d + 1
  | (_, d) => uptoBulk d + 1
 end
def uptoSmall : (H : Type) → List (DataW H) → Bool := fun _ ds => decide (uptoBulkAll ds ≤ 1048576)
def OpenSpec.upto (s : _root_.Go.ChangeSpec) : _root_.Go.OpenSpec := { _root_.Go.OpenSpec.ofChange s with cond := some uptoSmall }

/-- 'vendmeterkeep.WindowKnows', WHERE WHAT IT READS IS OF BULK AT MOST 1048576: true; the input reads as it did. -/
def windowKnowsUptoRow : OpenClaim := { program := "ytjlihpbnhojdgaa", sum := "5985722f05a14c525c740c35db0555ae76335d134ecbd797e5c53ef13560fa86", func := "vendmeter/vendmeterkeep.WindowKnows", spec := "windowKnows", apart := false, narrowed := true }
def WindowKnowsUptoSaid : Prop := windowKnowsUptoRow.holds Try.pinned (OpenSpec.upto windowKnowsSpec)

/-- 'vendmeterkeep.MeterBack', WHERE WHAT IT READS IS OF BULK AT MOST 1048576: true; the input reads as it did. -/
def meterBackUptoRow : OpenClaim := { program := "ytjlihpbnhojdgaa", sum := "5985722f05a14c525c740c35db0555ae76335d134ecbd797e5c53ef13560fa86", func := "vendmeter/vendmeterkeep.MeterBack", spec := "meterBack", apart := false, narrowed := true }
def MeterBackUptoSaid : Prop := meterBackUptoRow.holds Try.pinned (OpenSpec.upto meterBackSpec)

/-- 'vendmeterkeep.MeterFixed', WHERE WHAT IT READS IS OF BULK AT MOST 1048576: true; the input reads as it did. -/
def meterFixedUptoRow : OpenClaim := { program := "ytjlihpbnhojdgaa", sum := "5985722f05a14c525c740c35db0555ae76335d134ecbd797e5c53ef13560fa86", func := "vendmeter/vendmeterkeep.MeterFixed", spec := "meterFixed", apart := false, narrowed := true }
def MeterFixedUptoSaid : Prop := meterFixedUptoRow.holds Try.pinned (OpenSpec.upto meterFixedSpec)

/-- 'vendmeterkeep.CmpPlus', WHERE WHAT IT READS IS OF BULK AT MOST 1048576: true; the input reads as it did. -/
def cmpPlusUptoRow : OpenClaim := { program := "ytjlihpbnhojdgaa", sum := "5985722f05a14c525c740c35db0555ae76335d134ecbd797e5c53ef13560fa86", func := "vendmeter/vendmeterkeep.CmpPlus", spec := "cmpPlus", unfollowed := true, recurses := true, apart := false, narrowed := true }
def CmpPlusUptoSaid : Prop := cmpPlusUptoRow.holds Try.pinned (OpenSpec.upto cmpPlusSpec)

/-- 'vendmeterkeep.CalJoins', WHERE WHAT IT READS IS OF BULK AT MOST 1048576: true; the input reads as it did. -/
def calJoinsUptoRow : OpenClaim := { program := "ytjlihpbnhojdgaa", sum := "5985722f05a14c525c740c35db0555ae76335d134ecbd797e5c53ef13560fa86", func := "vendmeter/vendmeterkeep.CalJoins", spec := "calJoins", apart := false, narrowed := true }
def CalJoinsUptoSaid : Prop := calJoinsUptoRow.holds Try.pinned (OpenSpec.upto calJoinsSpec)

/-- 'vendmeterkeep.DebtEnds', WHERE WHAT IT READS IS OF BULK AT MOST 1048576: true; the input reads as it did. -/
def debtEndsUptoRow : OpenClaim := { program := "ytjlihpbnhojdgaa", sum := "5985722f05a14c525c740c35db0555ae76335d134ecbd797e5c53ef13560fa86", func := "vendmeter/vendmeterkeep.DebtEnds", spec := "debtEnds", apart := false, narrowed := true }
def DebtEndsUptoSaid : Prop := debtEndsUptoRow.holds Try.pinned (OpenSpec.upto debtEndsSpec)

/-- 'vendmeterkeep.DiskFull', WHERE WHAT IT READS IS OF BULK AT MOST 1048576: true; the input reads as it did. -/
def diskFullUptoRow : OpenClaim := { program := "ytjlihpbnhojdgaa", sum := "5985722f05a14c525c740c35db0555ae76335d134ecbd797e5c53ef13560fa86", func := "vendmeter/vendmeterkeep.DiskFull", spec := "diskFull", unfollowed := true, recurses := true, apart := false, narrowed := true }
def DiskFullUptoSaid : Prop := diskFullUptoRow.holds Try.pinned (OpenSpec.upto diskFullSpec)

/-- 'vendmeterkeep.EventBack', WHERE WHAT IT READS IS OF BULK AT MOST 1048576: true; the input reads as it did. -/
def eventBackUptoRow : OpenClaim := { program := "ytjlihpbnhojdgaa", sum := "5985722f05a14c525c740c35db0555ae76335d134ecbd797e5c53ef13560fa86", func := "vendmeter/vendmeterkeep.EventBack", spec := "eventBack", unfollowed := true, recurses := true, apart := false, narrowed := true }
def EventBackUptoSaid : Prop := eventBackUptoRow.holds Try.pinned (OpenSpec.upto eventBackSpec)

/-- 'vendmeterkeep.EventFixed', WHERE WHAT IT READS IS OF BULK AT MOST 1048576: true; the input reads as it did. -/
def eventFixedUptoRow : OpenClaim := { program := "ytjlihpbnhojdgaa", sum := "5985722f05a14c525c740c35db0555ae76335d134ecbd797e5c53ef13560fa86", func := "vendmeter/vendmeterkeep.EventFixed", spec := "eventFixed", unfollowed := true, recurses := true, apart := false, narrowed := true }
def EventFixedUptoSaid : Prop := eventFixedUptoRow.holds Try.pinned (OpenSpec.upto eventFixedSpec)

/-- 'vendmeterkeep.DiskBack', WHERE WHAT IT READS IS OF BULK AT MOST 1048576: true; the input reads as it did. -/
def diskBackUptoRow : OpenClaim := { program := "ytjlihpbnhojdgaa", sum := "5985722f05a14c525c740c35db0555ae76335d134ecbd797e5c53ef13560fa86", func := "vendmeter/vendmeterkeep.DiskBack", spec := "diskBack", unfollowed := true, recurses := true, apart := false, narrowed := true }
def DiskBackUptoSaid : Prop := diskBackUptoRow.holds Try.pinned (OpenSpec.upto diskBackSpec)

/-- 'vendmeterkeep.DiskCut', WHERE WHAT IT READS IS OF BULK AT MOST 1048576: true; the input reads as it did. -/
def diskCutUptoRow : OpenClaim := { program := "ytjlihpbnhojdgaa", sum := "5985722f05a14c525c740c35db0555ae76335d134ecbd797e5c53ef13560fa86", func := "vendmeter/vendmeterkeep.DiskCut", spec := "diskCut", unfollowed := true, recurses := true, apart := false, narrowed := true }
def DiskCutUptoSaid : Prop := diskCutUptoRow.holds Try.pinned (OpenSpec.upto diskCutSpec)

/-- 'vendmeterkeep.DiskRetry', WHERE WHAT IT READS IS OF BULK AT MOST 1048576: true; the input reads as it did. -/
def diskRetryUptoRow : OpenClaim := { program := "ytjlihpbnhojdgaa", sum := "5985722f05a14c525c740c35db0555ae76335d134ecbd797e5c53ef13560fa86", func := "vendmeter/vendmeterkeep.DiskRetry", spec := "diskRetry", unfollowed := true, recurses := true, apart := false, narrowed := true }
def DiskRetryUptoSaid : Prop := diskRetryUptoRow.holds Try.pinned (OpenSpec.upto diskRetrySpec)

end Rows
end Go.Proofs.Ytjlihpbnhojdgaa
