/- The Go law TokenApart answers true for every input, without condition, and its arguments read behind the call as before: UNLIKE TOKENS HAVE UNLIKE DIGITS; unlike bodies are told but by the tag. (The row, out of the walk in WTokenApart.) -/
import Derived.Conc.Holds
import Derived.Leaving
import Derived.Test.YtfdgjaahmbjnpaaRows
import Derived.Test.YtfdgjaahmbjnpaaWTokenApart
import Derived.Test.YtfdgjaahmbjnpaaOpen
import Derived.Test.YtfdgjaahmbjnpaaTokO
import Derived.WalkKit
import Derived.ProofKit
import Derived.OpenShut
import Derived.ShutString
import Derived.ChangeOld
import Derived.Below
import Derived.SizedLaws
import Derived.Carry
namespace Go.Proofs.Ytfdgjaahmbjnpaa.tokenApart
open Go.ChangeShapes Go.WideShapes Go.ChangeAt Go.RowKit Go.Proofs.Ytfdgjaahmbjnpaa.Base Go.Proofs.Ytfdgjaahmbjnpaa.Open
open Go.ChangeMaps (open_string shut_string)
set_option linter.unusedVariables false
set_option linter.unusedSimpArgs false
theorem own : ownKnob Try.prog.godebug = none := by kernel_rfl
theorem laidOut : laidOutB Try.prog = true := by kernel_rfl
set_option maxRecDepth 100000 in
theorem lifted (os : Os) (started : os.Started) (H : Type) (enc : TypeId × Value → H) :
    ReturnsInHanded {} Try.checked os 8 .any (Rows.tokenApartSpec.pre6 enc Try.prog Try.f8 Rows.tokenApartRow.domain false) (Rows.tokenApartSpec.post enc Try.prog Try.f8 false true false false) := by
  refine returnsInHanded_of_change_sized (C := Try.checked) own started (by kernel_rfl) Try.func8
    (ChangeSpec.witness6 (enc := enc) (C := Try.checked) false ⟨#[], #[.agg #[.int .i64 0, .int .i64 0, .int .i64 0, .int .i64 0], .agg #[.int .i64 0, .int .i64 0, .int .i64 0, .int .i64 0]], []⟩ 8 (by kernel_rfl) (by kernel_rfl) (by kernel_rfl) (by kernel_rfl)) ?_
  intro W base args ds gs before hval0 hW hcnd hsz0 _
  have hsz : (DataW.weightsEach Try.prog (Try.f8.params.toList ++ Rows.tokenApartSpec.plain.varTypes Try.prog) (ds ++ gs)).all (· ≤ reachBytes) = true := hsz0
  have hval : ∀ (j : Nat) t v, Try.f8.params[j]? = some t → args[j]? = some v → Value.okWide Try.prog W .any base t v := hval0
  have hW' := hW
  obtain ⟨p, q, hA0, hV, rfl, hfz, hnd⟩ := hW
  have hA : DataW.TrodAll enc Try.prog W 0 (fun _ => true) true Try.f8.params.toList args.toList ds p := hA0
  rw [Try.params8] at hA hval hsz
  obtain ⟨v0, vs0, d0, ds0, p0, q0, hargs, rfl, rfl, h0, r0⟩ := trodAll_cons hA
  obtain ⟨v1, vs1, d1, ds1, p1, q1, rfl, rfl, rfl, h1, r1⟩ := trodAll_cons r0
  obtain ⟨rfl, rfl, rfl⟩ := trodAll_nil r1
  obtain rfl : args = #[v0, v1] := by cases args; simp_all
  obtain ⟨rfl, rfl⟩ := trodVars_none hV
  have k0 := h0
  have lt0 : ∀ x ∈ p0, x.block < W.heap.size := by obtain ⟨m, hm⟩ := k0; exact DataW.trod_lt m _ _ _ hm
  obtain ⟨x0, cs0, rfl, w0⟩ := top_agg (TokO.opens_raw) (okWide_agg_of (by kernel_rfl) (hval 0 24 v0 rfl rfl)) h0
  have k1 := h1
  have lt1 : ∀ x ∈ p1, x.block < W.heap.size := by obtain ⟨m, hm⟩ := k1; exact DataW.trod_lt m _ _ _ hm
  obtain ⟨x1, cs1, rfl, w1⟩ := top_agg (TokO.opens_raw) (okWide_agg_of (by kernel_rfl) (hval 1 24 v1 rfl rfl)) h1
  clear hA0 hval0 hsz0 hsz
  refine (TokenApart.walk x0 cs0 x1 cs1 W w0 w1).mono fun e W' ⟨he, bel⟩ => ?_
  subst he
  exact ⟨_, rfl, _, _, _, [], _, [], hW', trodAll_mk1 (shut_bool Try.underlying4 _), (trodAll_cons_mk (Below.trod laidOut (by kernel_rfl) (of_decide_eq_true (by kernel_rfl)) k0 bel lt0) (trodAll_cons_mk (Below.trod laidOut (by kernel_rfl) (of_decide_eq_true (by kernel_rfl)) k1 bel lt1) trodAll_mk0)), rfl, bel.frame _, fun h => by cases h⟩
theorem leave {a : Assume} {C : Checked} {os : Os} {f : FuncId} {r : Reach} {Pre : World → Array Value → Prop} {Post : World → Array Value → Value → World → Prop} (h : ReturnsInHanded a C os f r Pre Post) : ReturnsInLeavingWide a C os f r Pre Post := fun enter => by
  obtain ⟨e, own, st, wit, run⟩ := h enter
  refine ⟨e, own, st, wit, fun w tape i hf => ?_⟩
  obtain ⟨n, v, w', h1, h2, h3, h4, ⟨j, last, h5, h6, hq, ho, he⟩, h7⟩ := run w tape i hf
  exact ⟨n, v, w', h1, h2, h3, h4, ⟨j, last, h5, h6, ho, onlyLeaving_of_quiet hq, he⟩, h7⟩
theorem over : Rows.tokenApartRow.holds Try.pinned (OpenSpec.ofChange Rows.tokenApartSpec) :=
  OpenClaim.holds_of_wide_leaving 8 Try.f8 rfl rfl rfl rfl rfl rfl rfl ⟨rfl, rfl, rfl, rfl, rfl⟩ rfl rfl rfl rfl rfl (by kernel_rfl) Try.func8 (by kernel_rfl)
    (of_decide_eq_true (by kernel_rfl)) (by unfold Func.isWrapper; first | (rw [if_pos (by decide +kernel)]; kernel_rfl) | (rw [if_neg (by decide +kernel)]; exact ⟨rfl, rfl⟩))
    (fun os started H enc _ => leave ( lifted os started H enc))
theorem proved : Rows.TokenApartSaid := over
#print axioms proved
end Go.Proofs.Ytfdgjaahmbjnpaa.tokenApart
namespace Go.Proofs.Ytfdgjaahmbjnpaa
/-- The row, under a short name, for the claim. -/
theorem tokenApart_holds : Rows.TokenApartSaid := tokenApart.proved
end Go.Proofs.Ytfdgjaahmbjnpaa
