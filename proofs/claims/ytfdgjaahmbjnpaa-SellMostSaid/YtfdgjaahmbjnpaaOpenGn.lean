/- A raw account opened. -/
import Derived.Test.YtfdgjaahmbjnpaaAcc4
import Derived.Test.YtfdgjaahmbjnpaaOpenOw
namespace Go.Proofs.Ytfdgjaahmbjnpaa.Acc
open Go.RowKit Go.ChangeShapes Go.WideShapes Go.ChangeAt Go.Proofs.Ytfdgjaahmbjnpaa.Base
set_option linter.unusedSimpArgs false
set_option maxRecDepth 20000
theorem opens_gone {H : Type} {enc : TypeId × Value → H} {W : World} : Open.Opens enc Try.prog W 47 (fun (x : Gn) cs => ∃ L d, cs = gnv x L x.ds.length d ∧ RdE 2 Debt.Ow.enc W L x.ds ∧ x.ok) := by
  refine Open.opens_struct Try.underlying47 fun cs hl hf => ?_
  rw [show Try.prog.cellsOf 47 = 7 by kernel_rfl] at hl
  match cs, hl with
  | [c0, c1, c2, c3, c4, c5, c6], _ =>
    obtain ⟨x0, e0, f0⟩ := Open.fld hf 0 rfl 0 1 rfl rfl (by kernel_rfl) (Open.opens_int Try.underlying3)
    obtain ⟨x1, e1, f1⟩ := Open.fld hf 1 rfl 1 1 rfl rfl (by kernel_rfl) (Open.opens_int Try.underlying3)
    obtain ⟨x2, e2, f2⟩ := Open.fld hf 2 rfl 2 1 rfl rfl (by kernel_rfl) (Open.opens_int Try.underlying3)
    obtain ⟨x3, e3, f3⟩ := Open.fld hf 3 rfl 3 1 rfl rfl (by kernel_rfl) (Open.opens_int Try.underlying3)
    obtain ⟨x4, e4, f4⟩ := Open.fld hf 4 rfl 4 1 rfl rfl (by kernel_rfl) (Open.opens_int Try.underlying3)
    obtain ⟨x5, e5, f5⟩ := Open.fld hf 5 rfl 5 1 rfl rfl (by kernel_rfl) (Open.opens_int Try.underlying3)
    obtain ⟨xs, A, c, e6, _, hr⟩ := Open.fld hf 6 rfl 6 1 rfl rfl (by kernel_rfl) (Open.opens_slice Try.underlying45 (by kernel_rfl : Try.prog.cellsOf 165 = 2) Open.opens_ow)
    obtain ⟨h1, h2⟩ := hr.toE'
    simp at e0 e1 e2 e3 e4 e5 e6
    subst e0 e1 e2 e3 e4 e5 e6
    exact ⟨⟨x0, x1, x2, x3, x4, x5, xs⟩, A, c, rfl, h1, i64_bound f0, i64_bound f1, i64_bound f2, i64_bound f3, i64_bound f4, i64_bound f5, h2⟩
end Go.Proofs.Ytfdgjaahmbjnpaa.Acc
