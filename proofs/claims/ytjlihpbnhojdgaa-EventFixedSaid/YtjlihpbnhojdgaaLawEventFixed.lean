/- The Go law EventFixed answers true for every input, without condition, and its arguments read behind the call as before: AND ARE AS THEY WERE: no event has two. (The row, out of the walk in WEventFixed.) -/
import Derived.Test.YtjlihpbnhojdgaaRows
import Derived.Test.YtjlihpbnhojdgaaWEventFixed
import Derived.Test.YtjlihpbnhojdgaaOpen
import Derived.Test.YtjlihpbnhojdgaaEvO
import Derived.WalkKit
import Derived.ProofKit
import Derived.OpenShut
import Derived.ShutString
import Derived.ChangeOld
import Derived.Below
import Derived.SizedLaws
import Derived.Carry
namespace Go.Proofs.Ytjlihpbnhojdgaa.eventFixed
open Go.ChangeShapes Go.WideShapes Go.ChangeAt Go.RowKit Go.Proofs.Ytjlihpbnhojdgaa.Base Go.Proofs.Ytjlihpbnhojdgaa.Open
open Go.ChangeMaps (open_string shut_string)
set_option linter.unusedVariables false
set_option linter.unusedSimpArgs false
theorem own : ownKnob Try.prog.godebug = none := by kernel_rfl
theorem laidOut : laidOutB Try.prog = true := by kernel_rfl
set_option maxRecDepth 100000 in
theorem lifted (os : Os) (started : os.Started) (H : Type) (enc : TypeId × Value → H) :
    ReturnsInHanded {} Try.checked os 11 .any (Rows.eventFixedSpec.pre6 enc Try.prog Try.f11 Rows.eventFixedRow.domain false) (Rows.eventFixedSpec.post enc Try.prog Try.f11 false true false false) := by
  refine returnsInHanded_of_change_sized (C := Try.checked) own started (by kernel_rfl) Try.func11
    (ChangeSpec.witness6 (enc := enc) (C := Try.checked) false ⟨#[], #[.slice none 0 0], []⟩ 8 (by kernel_rfl) (by kernel_rfl) (by kernel_rfl) (by kernel_rfl)) ?_
  intro W base args ds gs before hval0 hW hcnd hsz0 _
  have hsz : (DataW.weightsEach Try.prog (Try.f11.params.toList ++ Rows.eventFixedSpec.plain.varTypes Try.prog) (ds ++ gs)).all (· ≤ reachBytes) = true := hsz0
  have hval : ∀ (j : Nat) t v, Try.f11.params[j]? = some t → args[j]? = some v → Value.okWide Try.prog W .any base t v := hval0
  have hW' := hW
  obtain ⟨p, q, hA0, hV, rfl, hfz, hnd⟩ := hW
  have hA : DataW.TrodAll enc Try.prog W 0 (fun _ => true) true Try.f11.params.toList args.toList ds p := hA0
  rw [Try.params11] at hA hval hsz
  obtain ⟨v0, vs0, d0, ds0, p0, q0, hargs, rfl, rfl, h0, r0⟩ := trodAll_cons hA
  obtain ⟨rfl, rfl, rfl⟩ := trodAll_nil r0
  obtain rfl : args = #[v0] := by cases args; simp_all
  obtain ⟨rfl, rfl⟩ := trodVars_none hV
  have k0 := h0
  have lt0 : ∀ x ∈ p0, x.block < W.heap.size := by obtain ⟨m, hm⟩ := k0; exact DataW.trod_lt m _ _ _ hm
  obtain ⟨A0, xs0, c0, rfl, hl0, w0⟩ := top_slice Try.underlying36 (by kernel_rfl : Try.prog.cellsOf 45 = 1) (opens_u32 Try.underlying45) (hval 0 36 v0 rfl rfl) h0
  have y0 : xs0.length * 4 ≤ 140737488351232 := slice_weight hsz (j := 0) (t := 36) rfl rfl Try.underlying36 (by kernel_rfl) h0
  clear hA0 hval0 hsz0 hsz
  refine (EventFixed.walk xs0 A0 c0 W w0.toE y0).mono fun e W' ⟨he, bel⟩ => ?_
  subst he
  exact ⟨_, rfl, _, _, _, [], _, [], hW', trodAll_mk1 (shut_bool Try.underlying4 _), (trodAll_cons_mk (Below.trod laidOut (by kernel_rfl) (of_decide_eq_true (by kernel_rfl)) k0 bel lt0) trodAll_mk0), rfl, bel.frame _, fun h => by cases h⟩
theorem over : Rows.eventFixedRow.holds Try.pinned (OpenSpec.ofChange Rows.eventFixedSpec) :=
  OpenClaim.holds_of_wide 11 Try.f11 rfl rfl rfl rfl rfl rfl rfl ⟨rfl, rfl, rfl, rfl, rfl⟩ rfl rfl rfl rfl rfl (by kernel_rfl) Try.func11 (by kernel_rfl)
    (of_decide_eq_true (by kernel_rfl)) (by unfold Func.isWrapper; first | (rw [if_pos (by decide +kernel)]; kernel_rfl) | (rw [if_neg (by decide +kernel)]; exact ⟨rfl, rfl⟩))
    (fun os started H enc _ =>  lifted os started H enc)
theorem proved : Rows.EventFixedSaid := over
#print axioms proved
end Go.Proofs.Ytjlihpbnhojdgaa.eventFixed
namespace Go.Proofs.Ytjlihpbnhojdgaa
/-- The row, under a short name, for the claim. -/
theorem eventFixed_holds : Rows.EventFixedSaid := eventFixed.proved
end Go.Proofs.Ytjlihpbnhojdgaa
