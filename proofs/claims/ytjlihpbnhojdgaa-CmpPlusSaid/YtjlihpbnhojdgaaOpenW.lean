/- Opening an argument of type api.Wide. -/
import Derived.Test.YtjlihpbnhojdgaaOpen
import Derived.Test.YtjlihpbnhojdgaaWord
import Derived.Laws.IdiomArrays
namespace Go.Proofs.Ytjlihpbnhojdgaa.Open
set_option linter.unusedSimpArgs false
set_option maxRecDepth 20000
open Go.RowKit Go.ChangeShapes Go.WideShapes Go.ChangeAt Go.Proofs.Ytjlihpbnhojdgaa.Base Go.Proofs.Ytjlihpbnhojdgaa.Word
theorem wf_wd {n : Int} (h : (Lit.int .u32 n).wf = true) : wd n := by
  simp [Lit.wf, IntKind.min, IntKind.max, IntKind.bits, IntKind.signed] at h
  unfold wd
  omega
theorem opens_w3 {H : Type} {enc : TypeId × Value → H} {W : World} : Opens enc Try.prog W 47 (fun (x : W3) cs => cs = x.cs ∧ x.ok) := by
  intro n cs y h
  have hc : Try.prog.cellsOf 47 = 3 := by kernel_rfl
  have hl : cs.length = 3 := by
    cases n with
    | zero => simp [DataW.trod] at h
    | succ n =>
      have h' := h
      unfold DataW.trod at h'
      rw [Try.underlying47] at h'
      simp only [hc] at h'
      split at h'
      · assumption
      · cases h'
  match cs, hl with
  | [c0, c1, c2], _ =>
    obtain ⟨y0, y1, y2, k, _, g0, g1, g2⟩ := trod_array3 Try.underlying47 (by kernel_rfl) h
    obtain ⟨x0, e0, _, f0⟩ := DataW.trod_int Try.underlying45 g0
    obtain ⟨x1, e1, _, f1⟩ := DataW.trod_int Try.underlying45 g1
    obtain ⟨x2, e2, _, f2⟩ := DataW.trod_int Try.underlying45 g2
    simp at e0 e1 e2
    subst e0 e1 e2
    exact ⟨⟨x0, x1, x2⟩, rfl, wf_wd f0, wf_wd f1, wf_wd f2⟩
end Go.Proofs.Ytjlihpbnhojdgaa.Open
