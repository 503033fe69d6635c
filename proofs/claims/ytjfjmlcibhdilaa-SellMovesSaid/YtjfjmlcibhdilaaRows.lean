/-
  No cell of these rows narrows 'for every input' (looked for: loops, veiled, ifaces, maps, wideKeys, modest, calm, conditions, laid).
  DERIVED. THE GIVEN ROWS OF THIS SEAT. 12 by the template 'for every input the law returns true; each argument reads behind the call as it read before'; 0 by the template 'total and deterministic' (their statements: YtjfjmlcibhdilaaTotals.lean).
  GIVEN WITH THE SEED: the statements are not yours to turn. If you find one false, say at which input.
  Laid BY PROGRAM, IN A SANDBOX (cutbox-rows.mjs): the forced cells as the released guide's own fill.sh prints them over the translation 602035522eeba45e… (all of the seat's roots in one cut). By AI agents, Wed Nov 11 2026. No macro, syntax, notation, axiom, sorry.
-/
import Derived.Test.YtjfjmlcibhdilaaChecked
import GoSem.Claim
import GoSem.ClaimJoined
import GoSem.ClaimMapViews
import Derived.JoinedTies
import Derived.KernelRfl
namespace Go.Proofs.Ytjfjmlcibhdilaa
/- THE CELL 'sum', in the pinned program and in every row, IS THE sha256 OF THE DUMP (.gsa) THAT YtjfjmlcibhdilaaProg.lean LOADS. Nothing in Lean hashes anything: it is a label: what it is worth is what the hold of that sum in a sandbox is worth. -/
noncomputable def Try.pinned : Pinned := { name := "ytjfjmlcibhdilaa", sum := "602035522eeba45e3fd95714f5e8ca6613102ed53d26110cd0ed6ac1b1b26431", checked := Try.checked }
namespace Rows
def none {H : Type} : Left H := { results := [], args := [] }

/-- 'vendmeterkeep.WideBack': WHATEVER THE INPUT: true; the input reads as it did. -/
def wideBackSpec : ChangeSpec := { name := "wideBack", fn := fun _ => fun
  | [d] => { results := [.lit (.bool true)], args := [d] }
  | _ => none }
def wideBackRow : OpenClaim := { program := "ytjfjmlcibhdilaa", sum := "602035522eeba45e3fd95714f5e8ca6613102ed53d26110cd0ed6ac1b1b26431", func := "vendmeter/vendmeterkeep.WideBack", spec := "wideBack", inPlace := ["internal/abi.NoEscape", "internal/bytealg.MakeNoZero"], unfollowed := true, recurses := true, named := ["math/bits.overflowError"], plainKeys := false, apart := false }
def WideBackSaid : Prop := wideBackRow.holds Try.pinned (OpenSpec.ofChange wideBackSpec)

/-- ITS FALSE NEIGHBOUR: 'it returns false'. Refute it at one input. -/
def wideBackWrong : ChangeSpec := { name := "wideBack", fn := fun _ => fun
  | [d] => { results := [.lit (.bool false)], args := [d] }
  | _ => none }
def WideBackWrongFalsely : Prop := wideBackRow.holds Try.pinned (OpenSpec.ofChange wideBackWrong)

/-- 'vendmeterkeep.GrantOnce': WHATEVER THE INPUT: true; the input reads as it did. -/
def grantOnceSpec : ChangeSpec := { name := "grantOnce", fn := fun _ => fun
  | [d1, d2, d3] => { results := [.lit (.bool true)], args := [d1, d2, d3] }
  | _ => none }
def grantOnceRow : OpenClaim := { program := "ytjfjmlcibhdilaa", sum := "602035522eeba45e3fd95714f5e8ca6613102ed53d26110cd0ed6ac1b1b26431", func := "vendmeter/vendmeterkeep.GrantOnce", spec := "grantOnce", inPlace := ["internal/reflectlite.ValueOf", "(internal/reflectlite.Value).Len"], unfollowed := true, recurses := true, plainKeys := false, apart := false }
def GrantOnceSaid : Prop := grantOnceRow.holds Try.pinned (OpenSpec.ofChange grantOnceSpec)

/-- ITS FALSE NEIGHBOUR: 'it returns false'. Refute it at one input. -/
def grantOnceWrong : ChangeSpec := { name := "grantOnce", fn := fun _ => fun
  | [d1, d2, d3] => { results := [.lit (.bool false)], args := [d1, d2, d3] }
  | _ => none }
def GrantOnceWrongFalsely : Prop := grantOnceRow.holds Try.pinned (OpenSpec.ofChange grantOnceWrong)

/-- 'vendmeterkeep.DealAdds': WHATEVER THE INPUT: true; the input reads as it did. -/
def dealAddsSpec : ChangeSpec := { name := "dealAdds", fn := fun _ => fun
  | [d1, d2] => { results := [.lit (.bool true)], args := [d1, d2] }
  | _ => none }
def dealAddsRow : OpenClaim := { program := "ytjfjmlcibhdilaa", sum := "602035522eeba45e3fd95714f5e8ca6613102ed53d26110cd0ed6ac1b1b26431", func := "vendmeter/vendmeterkeep.DealAdds", spec := "dealAdds", unfollowed := true, recurses := true, plainKeys := false, apart := false }
def DealAddsSaid : Prop := dealAddsRow.holds Try.pinned (OpenSpec.ofChange dealAddsSpec)

/-- ITS FALSE NEIGHBOUR: 'it returns false'. Refute it at one input. -/
def dealAddsWrong : ChangeSpec := { name := "dealAdds", fn := fun _ => fun
  | [d1, d2] => { results := [.lit (.bool false)], args := [d1, d2] }
  | _ => none }
def DealAddsWrongFalsely : Prop := dealAddsRow.holds Try.pinned (OpenSpec.ofChange dealAddsWrong)

/-- 'vendmeterkeep.DealFair': WHATEVER THE INPUT: true; the input reads as it did. -/
def dealFairSpec : ChangeSpec := { name := "dealFair", fn := fun _ => fun
  | [d1, d2] => { results := [.lit (.bool true)], args := [d1, d2] }
  | _ => none }
def dealFairRow : OpenClaim := { program := "ytjfjmlcibhdilaa", sum := "602035522eeba45e3fd95714f5e8ca6613102ed53d26110cd0ed6ac1b1b26431", func := "vendmeter/vendmeterkeep.DealFair", spec := "dealFair", unfollowed := true, recurses := true, plainKeys := false, apart := false }
def DealFairSaid : Prop := dealFairRow.holds Try.pinned (OpenSpec.ofChange dealFairSpec)

/-- ITS FALSE NEIGHBOUR: 'it returns false'. Refute it at one input. -/
def dealFairWrong : ChangeSpec := { name := "dealFair", fn := fun _ => fun
  | [d1, d2] => { results := [.lit (.bool false)], args := [d1, d2] }
  | _ => none }
def DealFairWrongFalsely : Prop := dealFairRow.holds Try.pinned (OpenSpec.ofChange dealFairWrong)

/-- 'vendmeterkeep.DealRises': WHATEVER THE INPUT: true; the input reads as it did. -/
def dealRisesSpec : ChangeSpec := { name := "dealRises", fn := fun _ => fun
  | [d1, d2] => { results := [.lit (.bool true)], args := [d1, d2] }
  | _ => none }
def dealRisesRow : OpenClaim := { program := "ytjfjmlcibhdilaa", sum := "602035522eeba45e3fd95714f5e8ca6613102ed53d26110cd0ed6ac1b1b26431", func := "vendmeter/vendmeterkeep.DealRises", spec := "dealRises", unfollowed := true, recurses := true, plainKeys := false, apart := false }
def DealRisesSaid : Prop := dealRisesRow.holds Try.pinned (OpenSpec.ofChange dealRisesSpec)

/-- ITS FALSE NEIGHBOUR: 'it returns false'. Refute it at one input. -/
def dealRisesWrong : ChangeSpec := { name := "dealRises", fn := fun _ => fun
  | [d1, d2] => { results := [.lit (.bool false)], args := [d1, d2] }
  | _ => none }
def DealRisesWrongFalsely : Prop := dealRisesRow.holds Try.pinned (OpenSpec.ofChange dealRisesWrong)

/-- 'vendmeterkeep.MeterRefuses': WHATEVER THE INPUT: true; the input reads as it did. -/
def meterRefusesSpec : ChangeSpec := { name := "meterRefuses", fn := fun _ => fun
  | [d1, d2, d3] => { results := [.lit (.bool true)], args := [d1, d2, d3] }
  | _ => none }
def meterRefusesRow : OpenClaim := { program := "ytjfjmlcibhdilaa", sum := "602035522eeba45e3fd95714f5e8ca6613102ed53d26110cd0ed6ac1b1b26431", func := "vendmeter/vendmeterkeep.MeterRefuses", spec := "meterRefuses", unfollowed := true, recurses := true, plainKeys := false, apart := false }
def MeterRefusesSaid : Prop := meterRefusesRow.holds Try.pinned (OpenSpec.ofChange meterRefusesSpec)

/-- ITS FALSE NEIGHBOUR: 'it returns false'. Refute it at one input. -/
def meterRefusesWrong : ChangeSpec := { name := "meterRefuses", fn := fun _ => fun
  | [d1, d2, d3] => { results := [.lit (.bool false)], args := [d1, d2, d3] }
  | _ => none }
def MeterRefusesWrongFalsely : Prop := meterRefusesRow.holds Try.pinned (OpenSpec.ofChange meterRefusesWrong)

/-- 'vendmeterkeep.MeterAdds': WHATEVER THE INPUT: true; the input reads as it did. -/
def meterAddsSpec : ChangeSpec := { name := "meterAdds", fn := fun _ => fun
  | [d1, d2] => { results := [.lit (.bool true)], args := [d1, d2] }
  | _ => none }
def meterAddsRow : OpenClaim := { program := "ytjfjmlcibhdilaa", sum := "602035522eeba45e3fd95714f5e8ca6613102ed53d26110cd0ed6ac1b1b26431", func := "vendmeter/vendmeterkeep.MeterAdds", spec := "meterAdds", unfollowed := true, recurses := true, plainKeys := false, apart := false }
def MeterAddsSaid : Prop := meterAddsRow.holds Try.pinned (OpenSpec.ofChange meterAddsSpec)

/-- ITS FALSE NEIGHBOUR: 'it returns false'. Refute it at one input. -/
def meterAddsWrong : ChangeSpec := { name := "meterAdds", fn := fun _ => fun
  | [d1, d2] => { results := [.lit (.bool false)], args := [d1, d2] }
  | _ => none }
def MeterAddsWrongFalsely : Prop := meterAddsRow.holds Try.pinned (OpenSpec.ofChange meterAddsWrong)

/-- 'vendmeterkeep.MeterOnce': WHATEVER THE INPUT: true; the input reads as it did. -/
def meterOnceSpec : ChangeSpec := { name := "meterOnce", fn := fun _ => fun
  | [d1, d2] => { results := [.lit (.bool true)], args := [d1, d2] }
  | _ => none }
def meterOnceRow : OpenClaim := { program := "ytjfjmlcibhdilaa", sum := "602035522eeba45e3fd95714f5e8ca6613102ed53d26110cd0ed6ac1b1b26431", func := "vendmeter/vendmeterkeep.MeterOnce", spec := "meterOnce", unfollowed := true, recurses := true, plainKeys := false, apart := false }
def MeterOnceSaid : Prop := meterOnceRow.holds Try.pinned (OpenSpec.ofChange meterOnceSpec)

/-- ITS FALSE NEIGHBOUR: 'it returns false'. Refute it at one input. -/
def meterOnceWrong : ChangeSpec := { name := "meterOnce", fn := fun _ => fun
  | [d1, d2] => { results := [.lit (.bool false)], args := [d1, d2] }
  | _ => none }
def MeterOnceWrongFalsely : Prop := meterOnceRow.holds Try.pinned (OpenSpec.ofChange meterOnceWrong)

/-- 'vendmeterkeep.MeterOthers': WHATEVER THE INPUT: true; the input reads as it did. -/
def meterOthersSpec : ChangeSpec := { name := "meterOthers", fn := fun _ => fun
  | [d1, d2, d3] => { results := [.lit (.bool true)], args := [d1, d2, d3] }
  | _ => none }
def meterOthersRow : OpenClaim := { program := "ytjfjmlcibhdilaa", sum := "602035522eeba45e3fd95714f5e8ca6613102ed53d26110cd0ed6ac1b1b26431", func := "vendmeter/vendmeterkeep.MeterOthers", spec := "meterOthers", unfollowed := true, recurses := true, plainKeys := false, apart := false }
def MeterOthersSaid : Prop := meterOthersRow.holds Try.pinned (OpenSpec.ofChange meterOthersSpec)

/-- ITS FALSE NEIGHBOUR: 'it returns false'. Refute it at one input. -/
def meterOthersWrong : ChangeSpec := { name := "meterOthers", fn := fun _ => fun
  | [d1, d2, d3] => { results := [.lit (.bool false)], args := [d1, d2, d3] }
  | _ => none }
def MeterOthersWrongFalsely : Prop := meterOthersRow.holds Try.pinned (OpenSpec.ofChange meterOthersWrong)

/-- 'vendmeterkeep.MeterTurns': WHATEVER THE INPUT: true; the input reads as it did. -/
def meterTurnsSpec : ChangeSpec := { name := "meterTurns", fn := fun _ => fun
  | [d1, d2, d3, d4] => { results := [.lit (.bool true)], args := [d1, d2, d3, d4] }
  | _ => none }
def meterTurnsRow : OpenClaim := { program := "ytjfjmlcibhdilaa", sum := "602035522eeba45e3fd95714f5e8ca6613102ed53d26110cd0ed6ac1b1b26431", func := "vendmeter/vendmeterkeep.MeterTurns", spec := "meterTurns", unfollowed := true, recurses := true, plainKeys := false, apart := false }
def MeterTurnsSaid : Prop := meterTurnsRow.holds Try.pinned (OpenSpec.ofChange meterTurnsSpec)

/-- ITS FALSE NEIGHBOUR: 'it returns false'. Refute it at one input. -/
def meterTurnsWrong : ChangeSpec := { name := "meterTurns", fn := fun _ => fun
  | [d1, d2, d3, d4] => { results := [.lit (.bool false)], args := [d1, d2, d3, d4] }
  | _ => none }
def MeterTurnsWrongFalsely : Prop := meterTurnsRow.holds Try.pinned (OpenSpec.ofChange meterTurnsWrong)

/-- 'vendmeterkeep.SellShare': WHATEVER THE INPUT: true; the input reads as it did. -/
def sellShareSpec : ChangeSpec := { name := "sellShare", fn := fun _ => fun
  | [d1, d2, d3] => { results := [.lit (.bool true)], args := [d1, d2, d3] }
  | _ => none }
def sellShareRow : OpenClaim := { program := "ytjfjmlcibhdilaa", sum := "602035522eeba45e3fd95714f5e8ca6613102ed53d26110cd0ed6ac1b1b26431", func := "vendmeter/vendmeterkeep.SellShare", spec := "sellShare", inPlace := ["internal/reflectlite.ValueOf", "(internal/reflectlite.Value).Len"], unfollowed := true, recurses := true, plainKeys := false, apart := false }
def SellShareSaid : Prop := sellShareRow.holds Try.pinned (OpenSpec.ofChange sellShareSpec)

/-- ITS FALSE NEIGHBOUR: 'it returns false'. Refute it at one input. -/
def sellShareWrong : ChangeSpec := { name := "sellShare", fn := fun _ => fun
  | [d1, d2, d3] => { results := [.lit (.bool false)], args := [d1, d2, d3] }
  | _ => none }
def SellShareWrongFalsely : Prop := sellShareRow.holds Try.pinned (OpenSpec.ofChange sellShareWrong)

/-- 'vendmeterkeep.SellMoves': WHATEVER THE INPUT: true; the input reads as it did. -/
def sellMovesSpec : ChangeSpec := { name := "sellMoves", fn := fun _ => fun
  | [d1, d2, d3, d4] => { results := [.lit (.bool true)], args := [d1, d2, d3, d4] }
  | _ => none }
def sellMovesRow : OpenClaim := { program := "ytjfjmlcibhdilaa", sum := "602035522eeba45e3fd95714f5e8ca6613102ed53d26110cd0ed6ac1b1b26431", func := "vendmeter/vendmeterkeep.SellMoves", spec := "sellMoves", inPlace := ["internal/reflectlite.ValueOf", "(internal/reflectlite.Value).Len"], unfollowed := true, recurses := true, plainKeys := false, apart := false }
def SellMovesSaid : Prop := sellMovesRow.holds Try.pinned (OpenSpec.ofChange sellMovesSpec)

/-- ITS FALSE NEIGHBOUR: 'it returns false'. Refute it at one input. -/
def sellMovesWrong : ChangeSpec := { name := "sellMoves", fn := fun _ => fun
  | [d1, d2, d3, d4] => { results := [.lit (.bool false)], args := [d1, d2, d3, d4] }
  | _ => none }
def SellMovesWrongFalsely : Prop := sellMovesRow.holds Try.pinned (OpenSpec.ofChange sellMovesWrong)

/- THE SECOND FORM. 'bulk': how many values and letters a reading holds, each counted each time it is reached (what is shared counts as often as it is met; a slice's spare places count too). A statement '..UptoSaid' is the law's where the arguments, and the package variables that the reading takes, are together of bulk at most 1048576: NARROWER than '..Said'. Prove '..Said' where nothing that the law and all that it calls make is longer than what came in: it says more and counts as full. Else prove '..UptoSaid'. A law counts once. -/
mutual
def uptoBulk {H : Type} : DataW H → Nat
  | .lit (.string bytes) => bytes.length + 1
  | .lit _ => 1
  | .nil => 1
  | .ptr d => uptoBulk d + 1
  | .slice elems spare => uptoBulkAll elems + uptoBulkAll spare + 1
  | .agg parts => uptoBulkAll parts + 1
  | .iface _ d => uptoBulk d + 1
  | .map entries => uptoBulkEntries entries + 1
  | .held _ => 1
def uptoBulkAll {H : Type} : List (DataW H) → Nat
  | [] => 0
  | d :: r => uptoBulk d + uptoBulkAll r
def uptoBulkEntries {H : Type} : List (Lit × DataW H) → Nat
  | [] => 0
  | x :: r => uptoBulkEntry x + uptoBulkEntries r
def uptoBulkEntry {H : Type} : Lit × DataW H → Nat
  | (.string bytes, d) => bytes.length + uptoBulk d + 1
  | (_, d) => uptoBulk d + 1
 end
def uptoSmall : (H : Type) → List (DataW H) → Bool := fun _ ds => decide (uptoBulkAll ds ≤ 1048576)
def OpenSpec.upto (s : _root_.Go.ChangeSpec) : _root_.Go.OpenSpec := { _root_.Go.OpenSpec.ofChange s with cond := some uptoSmall }

/-- 'vendmeterkeep.WideBack', WHERE WHAT IT READS IS OF BULK AT MOST 1048576: true; the input reads as it did. -/
def wideBackUptoRow : OpenClaim := { program := "ytjfjmlcibhdilaa", sum := "602035522eeba45e3fd95714f5e8ca6613102ed53d26110cd0ed6ac1b1b26431", func := "vendmeter/vendmeterkeep.WideBack", spec := "wideBack", inPlace := ["internal/abi.NoEscape", "internal/bytealg.MakeNoZero"], unfollowed := true, recurses := true, named := ["math/bits.overflowError"], plainKeys := false, apart := false, narrowed := true }
def WideBackUptoSaid : Prop := wideBackUptoRow.holds Try.pinned (OpenSpec.upto wideBackSpec)

/-- 'vendmeterkeep.GrantOnce', WHERE WHAT IT READS IS OF BULK AT MOST 1048576: true; the input reads as it did. -/
def grantOnceUptoRow : OpenClaim := { program := "ytjfjmlcibhdilaa", sum := "602035522eeba45e3fd95714f5e8ca6613102ed53d26110cd0ed6ac1b1b26431", func := "vendmeter/vendmeterkeep.GrantOnce", spec := "grantOnce", inPlace := ["internal/reflectlite.ValueOf", "(internal/reflectlite.Value).Len"], unfollowed := true, recurses := true, plainKeys := false, apart := false, narrowed := true }
def GrantOnceUptoSaid : Prop := grantOnceUptoRow.holds Try.pinned (OpenSpec.upto grantOnceSpec)

/-- 'vendmeterkeep.DealAdds', WHERE WHAT IT READS IS OF BULK AT MOST 1048576: true; the input reads as it did. -/
def dealAddsUptoRow : OpenClaim := { program := "ytjfjmlcibhdilaa", sum := "602035522eeba45e3fd95714f5e8ca6613102ed53d26110cd0ed6ac1b1b26431", func := "vendmeter/vendmeterkeep.DealAdds", spec := "dealAdds", unfollowed := true, recurses := true, plainKeys := false, apart := false, narrowed := true }
def DealAddsUptoSaid : Prop := dealAddsUptoRow.holds Try.pinned (OpenSpec.upto dealAddsSpec)

/-- 'vendmeterkeep.DealFair', WHERE WHAT IT READS IS OF BULK AT MOST 1048576: true; the input reads as it did. -/
def dealFairUptoRow : OpenClaim := { program := "ytjfjmlcibhdilaa", sum := "602035522eeba45e3fd95714f5e8ca6613102ed53d26110cd0ed6ac1b1b26431", func := "vendmeter/vendmeterkeep.DealFair", spec := "dealFair", unfollowed := true, recurses := true, plainKeys := false, apart := false, narrowed := true }
def DealFairUptoSaid : Prop := dealFairUptoRow.holds Try.pinned (OpenSpec.upto dealFairSpec)

/-- 'vendmeterkeep.DealRises', WHERE WHAT IT READS IS OF BULK AT MOST 1048576: true; the input reads as it did. -/
def dealRisesUptoRow : OpenClaim := { program := "ytjfjmlcibhdilaa", sum := "602035522eeba45e3fd95714f5e8ca6613102ed53d26110cd0ed6ac1b1b26431", func := "vendmeter/vendmeterkeep.DealRises", spec := "dealRises", unfollowed := true, recurses := true, plainKeys := false, apart := false, narrowed := true }
def DealRisesUptoSaid : Prop := dealRisesUptoRow.holds Try.pinned (OpenSpec.upto dealRisesSpec)

/-- 'vendmeterkeep.MeterRefuses', WHERE WHAT IT READS IS OF BULK AT MOST 1048576: true; the input reads as it did. -/
def meterRefusesUptoRow : OpenClaim := { program := "ytjfjmlcibhdilaa", sum := "602035522eeba45e3fd95714f5e8ca6613102ed53d26110cd0ed6ac1b1b26431", func := "vendmeter/vendmeterkeep.MeterRefuses", spec := "meterRefuses", unfollowed := true, recurses := true, plainKeys := false, apart := false, narrowed := true }
def MeterRefusesUptoSaid : Prop := meterRefusesUptoRow.holds Try.pinned (OpenSpec.upto meterRefusesSpec)

/-- 'vendmeterkeep.MeterAdds', WHERE WHAT IT READS IS OF BULK AT MOST 1048576: true; the input reads as it did. -/
def meterAddsUptoRow : OpenClaim := { program := "ytjfjmlcibhdilaa", sum := "602035522eeba45e3fd95714f5e8ca6613102ed53d26110cd0ed6ac1b1b26431", func := "vendmeter/vendmeterkeep.MeterAdds", spec := "meterAdds", unfollowed := true, recurses := true, plainKeys := false, apart := false, narrowed := true }
def MeterAddsUptoSaid : Prop := meterAddsUptoRow.holds Try.pinned (OpenSpec.upto meterAddsSpec)

/-- 'vendmeterkeep.MeterOnce', WHERE WHAT IT READS IS OF BULK AT MOST 1048576: true; the input reads as it did. -/
def meterOnceUptoRow : OpenClaim := { program := "ytjfjmlcibhdilaa", sum := "602035522eeba45e3fd95714f5e8ca6613102ed53d26110cd0ed6ac1b1b26431", func := "vendmeter/vendmeterkeep.MeterOnce", spec := "meterOnce", unfollowed := true, recurses := true, plainKeys := false, apart := false, narrowed := true }
def MeterOnceUptoSaid : Prop := meterOnceUptoRow.holds Try.pinned (OpenSpec.upto meterOnceSpec)

/-- 'vendmeterkeep.MeterOthers', WHERE WHAT IT READS IS OF BULK AT MOST 1048576: true; the input reads as it did. -/
def meterOthersUptoRow : OpenClaim := { program := "ytjfjmlcibhdilaa", sum := "602035522eeba45e3fd95714f5e8ca6613102ed53d26110cd0ed6ac1b1b26431", func := "vendmeter/vendmeterkeep.MeterOthers", spec := "meterOthers", unfollowed := true, recurses := true, plainKeys := false, apart := false, narrowed := true }
def MeterOthersUptoSaid : Prop := meterOthersUptoRow.holds Try.pinned (OpenSpec.upto meterOthersSpec)

/-- 'vendmeterkeep.MeterTurns', WHERE WHAT IT READS IS OF BULK AT MOST 1048576: true; the input reads as it did. -/
def meterTurnsUptoRow : OpenClaim := { program := "ytjfjmlcibhdilaa", sum := "602035522eeba45e3fd95714f5e8ca6613102ed53d26110cd0ed6ac1b1b26431", func := "vendmeter/vendmeterkeep.MeterTurns", spec := "meterTurns", unfollowed := true, recurses := true, plainKeys := false, apart := false, narrowed := true }
def MeterTurnsUptoSaid : Prop := meterTurnsUptoRow.holds Try.pinned (OpenSpec.upto meterTurnsSpec)

/-- 'vendmeterkeep.SellShare', WHERE WHAT IT READS IS OF BULK AT MOST 1048576: true; the input reads as it did. -/
def sellShareUptoRow : OpenClaim := { program := "ytjfjmlcibhdilaa", sum := "602035522eeba45e3fd95714f5e8ca6613102ed53d26110cd0ed6ac1b1b26431", func := "vendmeter/vendmeterkeep.SellShare", spec := "sellShare", inPlace := ["internal/reflectlite.ValueOf", "(internal/reflectlite.Value).Len"], unfollowed := true, recurses := true, plainKeys := false, apart := false, narrowed := true }
def SellShareUptoSaid : Prop := sellShareUptoRow.holds Try.pinned (OpenSpec.upto sellShareSpec)

/-- 'vendmeterkeep.SellMoves', WHERE WHAT IT READS IS OF BULK AT MOST 1048576: true; the input reads as it did. -/
def sellMovesUptoRow : OpenClaim := { program := "ytjfjmlcibhdilaa", sum := "602035522eeba45e3fd95714f5e8ca6613102ed53d26110cd0ed6ac1b1b26431", func := "vendmeter/vendmeterkeep.SellMoves", spec := "sellMoves", inPlace := ["internal/reflectlite.ValueOf", "(internal/reflectlite.Value).Len"], unfollowed := true, recurses := true, plainKeys := false, apart := false, narrowed := true }
def SellMovesUptoSaid : Prop := sellMovesUptoRow.holds Try.pinned (OpenSpec.upto sellMovesSpec)

end Rows
end Go.Proofs.Ytjfjmlcibhdilaa
