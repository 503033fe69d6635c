/-
  No cell of these rows narrows 'for every input' (looked for: loops, veiled, ifaces, maps, wideKeys, modest, calm, conditions, laid).
  DERIVED. THE GIVEN ROWS OF THIS SEAT. 6 by the template 'for every input the law returns true; each argument reads behind the call as it read before'; 0 by the template 'total and deterministic' (their statements: YtfdgjaahmbjnpaaTotals.lean).
  GIVEN WITH THE SEED: the statements are not yours to turn. If you find one false, say at which input.
  Laid BY PROGRAM, IN A SANDBOX (cutbox-rows.mjs): the forced cells as the released guide's own fill.sh prints them over the translation 3a7cc5220636d90f… (all of the seat's roots in one cut). By AI agents, Wed Nov 11 2026. No macro, syntax, notation, axiom, sorry.
-/
import Derived.Test.YtfdgjaahmbjnpaaChecked
import GoSem.Claim
import GoSem.ClaimJoined
import GoSem.ClaimMapViews
import Derived.JoinedTies
import Derived.KernelRfl
namespace Go.Proofs.Ytfdgjaahmbjnpaa
/- THE CELL 'sum', in the pinned program and in every row, IS THE sha256 OF THE DUMP (.gsa) THAT YtfdgjaahmbjnpaaProg.lean LOADS. Nothing in Lean hashes anything: it is a label: what it is worth is what the hold of that sum in a sandbox is worth. -/
noncomputable def Try.pinned : Pinned := { name := "ytfdgjaahmbjnpaa", sum := "3a7cc5220636d90f6bc0d5f7e648b7314233f5049e86bb33c531478c8a7b9898", checked := Try.checked }
namespace Rows
def none {H : Type} : Left H := { results := [], args := [] }

/-- 'vendmeterkeep.MeterLocks': WHATEVER THE INPUT: true; the input reads as it did. -/
def meterLocksSpec : ChangeSpec := { name := "meterLocks", fn := fun _ => fun
  | [d1, d2, d3, d4] => { results := [.lit (.bool true)], args := [d1, d2, d3, d4] }
  | _ => none }
def meterLocksRow : OpenClaim := { program := "ytfdgjaahmbjnpaa", sum := "3a7cc5220636d90f6bc0d5f7e648b7314233f5049e86bb33c531478c8a7b9898", func := "vendmeter/vendmeterkeep.MeterLocks", spec := "meterLocks", unfollowed := true, recurses := true, plainKeys := false, leaving := true, apart := false }
def MeterLocksSaid : Prop := meterLocksRow.holds Try.pinned (OpenSpec.ofChange meterLocksSpec)

/-- ITS FALSE NEIGHBOUR: 'it returns false'. Refute it at one input. -/
def meterLocksWrong : ChangeSpec := { name := "meterLocks", fn := fun _ => fun
  | [d1, d2, d3, d4] => { results := [.lit (.bool false)], args := [d1, d2, d3, d4] }
  | _ => none }
def MeterLocksWrongFalsely : Prop := meterLocksRow.holds Try.pinned (OpenSpec.ofChange meterLocksWrong)

/-- 'vendmeterkeep.SellMost': WHATEVER THE INPUT: true; the input reads as it did. -/
def sellMostSpec : ChangeSpec := { name := "sellMost", fn := fun _ => fun
  | [d1, d2, d3, d4] => { results := [.lit (.bool true)], args := [d1, d2, d3, d4] }
  | _ => none }
def sellMostRow : OpenClaim := { program := "ytfdgjaahmbjnpaa", sum := "3a7cc5220636d90f6bc0d5f7e648b7314233f5049e86bb33c531478c8a7b9898", func := "vendmeter/vendmeterkeep.SellMost", spec := "sellMost", inPlace := ["internal/reflectlite.ValueOf", "(internal/reflectlite.Value).Len"], unfollowed := true, recurses := true, plainKeys := false, leaving := true, apart := false }
def SellMostSaid : Prop := sellMostRow.holds Try.pinned (OpenSpec.ofChange sellMostSpec)

/-- ITS FALSE NEIGHBOUR: 'it returns false'. Refute it at one input. -/
def sellMostWrong : ChangeSpec := { name := "sellMost", fn := fun _ => fun
  | [d1, d2, d3, d4] => { results := [.lit (.bool false)], args := [d1, d2, d3, d4] }
  | _ => none }
def SellMostWrongFalsely : Prop := sellMostRow.holds Try.pinned (OpenSpec.ofChange sellMostWrong)

/-- 'vendmeterkeep.SellAdds': WHATEVER THE INPUT: true; the input reads as it did. -/
def sellAddsSpec : ChangeSpec := { name := "sellAdds", fn := fun _ => fun
  | [d1, d2, d3, d4] => { results := [.lit (.bool true)], args := [d1, d2, d3, d4] }
  | _ => none }
def sellAddsRow : OpenClaim := { program := "ytfdgjaahmbjnpaa", sum := "3a7cc5220636d90f6bc0d5f7e648b7314233f5049e86bb33c531478c8a7b9898", func := "vendmeter/vendmeterkeep.SellAdds", spec := "sellAdds", inPlace := ["internal/reflectlite.ValueOf", "(internal/reflectlite.Value).Len"], unfollowed := true, recurses := true, plainKeys := false, leaving := true, apart := false }
def SellAddsSaid : Prop := sellAddsRow.holds Try.pinned (OpenSpec.ofChange sellAddsSpec)

/-- ITS FALSE NEIGHBOUR: 'it returns false'. Refute it at one input. -/
def sellAddsWrong : ChangeSpec := { name := "sellAdds", fn := fun _ => fun
  | [d1, d2, d3, d4] => { results := [.lit (.bool false)], args := [d1, d2, d3, d4] }
  | _ => none }
def SellAddsWrongFalsely : Prop := sellAddsRow.holds Try.pinned (OpenSpec.ofChange sellAddsWrong)

/-- 'vendmeterkeep.ReconAdds': WHATEVER THE INPUT: true; the input reads as it did. -/
def reconAddsSpec : ChangeSpec := { name := "reconAdds", fn := fun _ => fun
  | [d1, d2] => { results := [.lit (.bool true)], args := [d1, d2] }
  | _ => none }
def reconAddsRow : OpenClaim := { program := "ytfdgjaahmbjnpaa", sum := "3a7cc5220636d90f6bc0d5f7e648b7314233f5049e86bb33c531478c8a7b9898", func := "vendmeter/vendmeterkeep.ReconAdds", spec := "reconAdds", inPlace := ["(*sync.WaitGroup).Add", "internal/race.ReleaseMerge", "internal/race.Disable", "internal/race.Enable", "internal/synctest.IsInBubble", "internal/synctest.Associate[sync.WaitGroup]", "sync.fatal", "sync/atomic.OrUint64", "sync/atomic.AddUint64", "internal/race.Read", "sync/atomic.LoadUint64", "sync/atomic.StoreUint64", "internal/synctest.Disassociate[sync.WaitGroup]", "sync.runtime_Semrelease", "(*sync.WaitGroup).Done", "sync/atomic.AddInt64", "(*sync.WaitGroup).Wait", "internal/race.Acquire", "internal/synctest.IsAssociated[sync.WaitGroup]", "sync/atomic.CompareAndSwapUint64", "internal/race.Write", "sync.runtime_SemacquireWaitGroup", "sync/atomic.LoadInt64"], unfollowed := true, recurses := true, plainKeys := false, leaving := true, apart := false }
def ReconAddsSaid : Prop := reconAddsRow.holds Try.pinned (OpenSpec.ofChange reconAddsSpec)

/-- ITS FALSE NEIGHBOUR: 'it returns false'. Refute it at one input. -/
def reconAddsWrong : ChangeSpec := { name := "reconAdds", fn := fun _ => fun
  | [d1, d2] => { results := [.lit (.bool false)], args := [d1, d2] }
  | _ => none }
def ReconAddsWrongFalsely : Prop := reconAddsRow.holds Try.pinned (OpenSpec.ofChange reconAddsWrong)

/-- 'vendmeterkeep.ReconTrue': WHATEVER THE INPUT: true; the input reads as it did. -/
def reconTrueSpec : ChangeSpec := { name := "reconTrue", fn := fun _ => fun
  | [d1, d2] => { results := [.lit (.bool true)], args := [d1, d2] }
  | _ => none }
def reconTrueRow : OpenClaim := { program := "ytfdgjaahmbjnpaa", sum := "3a7cc5220636d90f6bc0d5f7e648b7314233f5049e86bb33c531478c8a7b9898", func := "vendmeter/vendmeterkeep.ReconTrue", spec := "reconTrue", inPlace := ["(*sync.WaitGroup).Add", "internal/race.ReleaseMerge", "internal/race.Disable", "internal/race.Enable", "internal/synctest.IsInBubble", "internal/synctest.Associate[sync.WaitGroup]", "sync.fatal", "sync/atomic.OrUint64", "sync/atomic.AddUint64", "internal/race.Read", "sync/atomic.LoadUint64", "sync/atomic.StoreUint64", "internal/synctest.Disassociate[sync.WaitGroup]", "sync.runtime_Semrelease", "(*sync.WaitGroup).Done", "sync/atomic.AddInt64", "(*sync.WaitGroup).Wait", "internal/race.Acquire", "internal/synctest.IsAssociated[sync.WaitGroup]", "sync/atomic.CompareAndSwapUint64", "internal/race.Write", "sync.runtime_SemacquireWaitGroup", "sync/atomic.LoadInt64"], unfollowed := true, recurses := true, plainKeys := false, leaving := true, apart := false }
def ReconTrueSaid : Prop := reconTrueRow.holds Try.pinned (OpenSpec.ofChange reconTrueSpec)

/-- ITS FALSE NEIGHBOUR: 'it returns false'. Refute it at one input. -/
def reconTrueWrong : ChangeSpec := { name := "reconTrue", fn := fun _ => fun
  | [d1, d2] => { results := [.lit (.bool false)], args := [d1, d2] }
  | _ => none }
def ReconTrueWrongFalsely : Prop := reconTrueRow.holds Try.pinned (OpenSpec.ofChange reconTrueWrong)

/-- 'vendmeterkeep.TokenApart': WHATEVER THE INPUT: true; the input reads as it did. -/
def tokenApartSpec : ChangeSpec := { name := "tokenApart", fn := fun _ => fun
  | [d1, d2] => { results := [.lit (.bool true)], args := [d1, d2] }
  | _ => none }
def tokenApartRow : OpenClaim := { program := "ytfdgjaahmbjnpaa", sum := "3a7cc5220636d90f6bc0d5f7e648b7314233f5049e86bb33c531478c8a7b9898", func := "vendmeter/vendmeterkeep.TokenApart", spec := "tokenApart", inPlace := ["internal/abi.NoEscape", "internal/bytealg.MakeNoZero"], unfollowed := true, recurses := true, named := ["math/bits.overflowError"], plainKeys := false, leaving := true, apart := false }
def TokenApartSaid : Prop := tokenApartRow.holds Try.pinned (OpenSpec.ofChange tokenApartSpec)

/-- ITS FALSE NEIGHBOUR: 'it returns false'. Refute it at one input. -/
def tokenApartWrong : ChangeSpec := { name := "tokenApart", fn := fun _ => fun
  | [d1, d2] => { results := [.lit (.bool false)], args := [d1, d2] }
  | _ => none }
def TokenApartWrongFalsely : Prop := tokenApartRow.holds Try.pinned (OpenSpec.ofChange tokenApartWrong)

/- THE SECOND FORM. 'bulk': how many values and letters a reading holds, each counted each time it is reached (what is shared counts as often as it is met; a slice's spare places count too). A statement '..UptoSaid' is the law's where the arguments, and the package variables that the reading takes, are together of bulk at most 1048576: NARROWER than '..Said'. Prove '..Said' where nothing that the law and all that it calls make is longer than what came in: it says more and counts as full. Else prove '..UptoSaid'. A law counts once. -/
mutual
def uptoBulk {H : Type} : DataW H → Nat
  | .lit (.string bytes) => bytes.length + 1
  | .lit _ => 1
  | .nil => 1
  | .ptr d => uptoBulk d + 1
  | .slice elems spare => uptoBulkAll elems + uptoBulkAll spare + 1
  | .agg parts => uptoBulkAll parts + 1
  | .iface _ d => uptoBulk d + 1
  | .map entries => uptoBulkEntries entries + 1
  | .held _ => 1
def uptoBulkAll {H : Type} : List (DataW H) → Nat
  | [] => 0
  | d :: r => uptoBulk d + uptoBulkAll r
def uptoBulkEntries {H : Type} : List (Lit × DataW H) → Nat
  | [] => 0
  | x :: r => uptoBulkEntry x + uptoBulkEntries r
def uptoBulkEntry {H : Type} : Lit × DataW H → Nat
  | (.string bytes, d) => bytes.length + uptoBulk d + 1
  | (_, d) => uptoBulk d + 1
 end
def uptoSmall : (H : Type) → List (DataW H) → Bool := fun _ ds => decide (uptoBulkAll ds ≤ 1048576)
def OpenSpec.upto (s : _root_.Go.ChangeSpec) : _root_.Go.OpenSpec := { _root_.Go.OpenSpec.ofChange s with cond := some uptoSmall }

/-- 'vendmeterkeep.MeterLocks', WHERE WHAT IT READS IS OF BULK AT MOST 1048576: true; the input reads as it did. -/
def meterLocksUptoRow : OpenClaim := { program := "ytfdgjaahmbjnpaa", sum := "3a7cc5220636d90f6bc0d5f7e648b7314233f5049e86bb33c531478c8a7b9898", func := "vendmeter/vendmeterkeep.MeterLocks", spec := "meterLocks", unfollowed := true, recurses := true, plainKeys := false, leaving := true, apart := false, narrowed := true }
def MeterLocksUptoSaid : Prop := meterLocksUptoRow.holds Try.pinned (OpenSpec.upto meterLocksSpec)

/-- 'vendmeterkeep.SellMost', WHERE WHAT IT READS IS OF BULK AT MOST 1048576: true; the input reads as it did. -/
def sellMostUptoRow : OpenClaim := { program := "ytfdgjaahmbjnpaa", sum := "3a7cc5220636d90f6bc0d5f7e648b7314233f5049e86bb33c531478c8a7b9898", func := "vendmeter/vendmeterkeep.SellMost", spec := "sellMost", inPlace := ["internal/reflectlite.ValueOf", "(internal/reflectlite.Value).Len"], unfollowed := true, recurses := true, plainKeys := false, leaving := true, apart := false, narrowed := true }
def SellMostUptoSaid : Prop := sellMostUptoRow.holds Try.pinned (OpenSpec.upto sellMostSpec)

/-- 'vendmeterkeep.SellAdds', WHERE WHAT IT READS IS OF BULK AT MOST 1048576: true; the input reads as it did. -/
def sellAddsUptoRow : OpenClaim := { program := "ytfdgjaahmbjnpaa", sum := "3a7cc5220636d90f6bc0d5f7e648b7314233f5049e86bb33c531478c8a7b9898", func := "vendmeter/vendmeterkeep.SellAdds", spec := "sellAdds", inPlace := ["internal/reflectlite.ValueOf", "(internal/reflectlite.Value).Len"], unfollowed := true, recurses := true, plainKeys := false, leaving := true, apart := false, narrowed := true }
def SellAddsUptoSaid : Prop := sellAddsUptoRow.holds Try.pinned (OpenSpec.upto sellAddsSpec)

/-- 'vendmeterkeep.ReconAdds', WHERE WHAT IT READS IS OF BULK AT MOST 1048576: true; the input reads as it did. -/
def reconAddsUptoRow : OpenClaim := { program := "ytfdgjaahmbjnpaa", sum := "3a7cc5220636d90f6bc0d5f7e648b7314233f5049e86bb33c531478c8a7b9898", func := "vendmeter/vendmeterkeep.ReconAdds", spec := "reconAdds", inPlace := ["(*sync.WaitGroup).Add", "internal/race.ReleaseMerge", "internal/race.Disable", "internal/race.Enable", "internal/synctest.IsInBubble", "internal/synctest.Associate[sync.WaitGroup]", "sync.fatal", "sync/atomic.OrUint64", "sync/atomic.AddUint64", "internal/race.Read", "sync/atomic.LoadUint64", "sync/atomic.StoreUint64", "internal/synctest.Disassociate[sync.WaitGroup]", "sync.runtime_Semrelease", "(*sync.WaitGroup).Done", "sync/atomic.AddInt64", "(*sync.WaitGroup).Wait", "internal/race.Acquire", "internal/synctest.IsAssociated[sync.WaitGroup]", "sync/atomic.CompareAndSwapUint64", "internal/race.Write", "sync.runtime_SemacquireWaitGroup", "sync/atomic.LoadInt64"], unfollowed := true, recurses := true, plainKeys := false, leaving := true, apart := false, narrowed := true }
def ReconAddsUptoSaid : Prop := reconAddsUptoRow.holds Try.pinned (OpenSpec.upto reconAddsSpec)

/-- 'vendmeterkeep.ReconTrue', WHERE WHAT IT READS IS OF BULK AT MOST 1048576: true; the input reads as it did. -/
def reconTrueUptoRow : OpenClaim := { program := "ytfdgjaahmbjnpaa", sum := "3a7cc5220636d90f6bc0d5f7e648b7314233f5049e86bb33c531478c8a7b9898", func := "vendmeter/vendmeterkeep.ReconTrue", spec := "reconTrue", inPlace := ["(*sync.WaitGroup).Add", "internal/race.ReleaseMerge", "internal/race.Disable", "internal/race.Enable", "internal/synctest.IsInBubble", "internal/synctest.Associate[sync.WaitGroup]", "sync.fatal", "sync/atomic.OrUint64", "sync/atomic.AddUint64", "internal/race.Read", "sync/atomic.LoadUint64", "sync/atomic.StoreUint64", "internal/synctest.Disassociate[sync.WaitGroup]", "sync.runtime_Semrelease", "(*sync.WaitGroup).Done", "sync/atomic.AddInt64", "(*sync.WaitGroup).Wait", "internal/race.Acquire", "internal/synctest.IsAssociated[sync.WaitGroup]", "sync/atomic.CompareAndSwapUint64", "internal/race.Write", "sync.runtime_SemacquireWaitGroup", "sync/atomic.LoadInt64"], unfollowed := true, recurses := true, plainKeys := false, leaving := true, apart := false, narrowed := true }
def ReconTrueUptoSaid : Prop := reconTrueUptoRow.holds Try.pinned (OpenSpec.upto reconTrueSpec)

/-- 'vendmeterkeep.TokenApart', WHERE WHAT IT READS IS OF BULK AT MOST 1048576: true; the input reads as it did. -/
def tokenApartUptoRow : OpenClaim := { program := "ytfdgjaahmbjnpaa", sum := "3a7cc5220636d90f6bc0d5f7e648b7314233f5049e86bb33c531478c8a7b9898", func := "vendmeter/vendmeterkeep.TokenApart", spec := "tokenApart", inPlace := ["internal/abi.NoEscape", "internal/bytealg.MakeNoZero"], unfollowed := true, recurses := true, named := ["math/bits.overflowError"], plainKeys := false, leaving := true, apart := false, narrowed := true }
def TokenApartUptoSaid : Prop := tokenApartUptoRow.holds Try.pinned (OpenSpec.upto tokenApartSpec)

end Rows
end Go.Proofs.Ytfdgjaahmbjnpaa
