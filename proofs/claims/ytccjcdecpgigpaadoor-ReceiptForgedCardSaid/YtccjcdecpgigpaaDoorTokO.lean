/- Opening a raw token. -/
import Derived.Test.YtccjcdecpgigpaaDoorTok
import Derived.Test.YtccjcdecpgigpaaDoorOpenS
namespace Go.Proofs.YtccjcdecpgigpaaDoor.TokO
open Go.RowKit Go.Proofs.YtccjcdecpgigpaaDoor.Base Go.Proofs.YtccjcdecpgigpaaDoor.Tok
set_option linter.unusedVariables false
set_option linter.unusedSimpArgs false
set_option maxRecDepth 20000
open Go.ChangeShapes Go.WideShapes Go.ChangeAt in
theorem opens_raw {H : Type} {enc : TypeId × Value → H} {W : World} : Open.Opens enc Tryd.prog W 23 (fun (t : Tk) cs => cs = t.vals.toList ∧ t.ok) := by
  refine Open.opens_struct Tryd.underlying23 fun cs hl hf => ?_
  rw [show Tryd.prog.cellsOf 23 = 4 by kernel_rfl] at hl
  match cs, hl with
  | [c0, c1, c2, c3], _ =>
    obtain ⟨x0, e0, f0⟩ := Open.fld hf 0 rfl 0 1 rfl rfl (by kernel_rfl) (Open.opens_int Tryd.underlying3)
    obtain ⟨x1, e1, f1⟩ := Open.fld hf 1 rfl 1 1 rfl rfl (by kernel_rfl) (Open.opens_int Tryd.underlying3)
    obtain ⟨x2, e2, f2⟩ := Open.fld hf 2 rfl 2 1 rfl rfl (by kernel_rfl) (Open.opens_int Tryd.underlying3)
    obtain ⟨x3, e3, f3⟩ := Open.fld hf 3 rfl 3 1 rfl rfl (by kernel_rfl) (Open.opens_int Tryd.underlying3)
    simp at e0 e1 e2 e3
    subst e0 e1 e2 e3
    exact ⟨⟨x0, x1, x2, x3⟩, rfl, ⟨i64_bound f0, i64_bound f1⟩, i64_bound f2, i64_bound f3⟩
end Go.Proofs.YtccjcdecpgigpaaDoor.TokO
