/- Opening a raw debt. -/
import Derived.Test.YtfdgjaahmbjnpaaOpenS
import Derived.Test.YtfdgjaahmbjnpaaDebt
namespace Go.Proofs.Ytfdgjaahmbjnpaa.Open
set_option linter.unusedSimpArgs false
set_option maxRecDepth 20000
open Go.RowKit Go.ChangeShapes Go.WideShapes Go.ChangeAt Go.Proofs.Ytfdgjaahmbjnpaa.Base
theorem opens_ow {H : Type} {enc : TypeId × Value → H} {W : World} : Opens enc Try.prog W 165 (fun (x : Debt.Ow) cs => cs = x.enc ∧ x.ok) := by
  refine opens_struct Try.underlying165 fun cs hl hf => ?_
  rw [show Try.prog.cellsOf 165 = 2 by kernel_rfl] at hl
  match cs, hl with
  | [c0, c1], _ =>
    obtain ⟨x0, e0, f0⟩ := fld hf 0 rfl 0 1 rfl rfl (by kernel_rfl) (opens_int Try.underlying3)
    obtain ⟨x1, e1, f1⟩ := fld hf 1 rfl 1 1 rfl rfl (by kernel_rfl) (opens_int Try.underlying3)
    simp at e0 e1
    subst e0 e1
    exact ⟨⟨x0, x1⟩, rfl, i64_bound f0, i64_bound f1⟩
end Go.Proofs.Ytfdgjaahmbjnpaa.Open
