/- Opening meters, tokens, oracles. -/
import Derived.Test.YtccjcdecpgigpaaDoorOpenS
import Derived.Test.YtccjcdecpgigpaaDoorMay
import Derived.Test.YtccjcdecpgigpaaDoorTok
import Derived.Test.YtccjcdecpgigpaaDoorOrcP
namespace Go.Proofs.YtccjcdecpgigpaaDoor.OpM
open Go.RowKit Go.Proofs.YtccjcdecpgigpaaDoor.Base Go.ChangeShapes Go.WideShapes Go.ChangeAt
set_option linter.unusedVariables false
set_option linter.unusedSimpArgs false
set_option maxRecDepth 20000
theorem opens_win {H : Type} {enc : TypeId × Value → H} {W : World} : Open.Opens enc Tryd.prog W 38 (fun (x : Int × Nat) cs => cs = [.int .i64 x.1, .int .u64 (x.2 : Int)] ∧ Met.i64 x.1 ∧ x.2 < 18446744073709551616) := by
  refine Open.opens_struct Tryd.underlying38 fun cs hl hf => ?_
  rw [show Tryd.prog.cellsOf 38 = 2 by kernel_rfl] at hl
  match cs, hl with
  | [c0, c1], _ =>
    obtain ⟨x0, e0, f0⟩ := Open.fld hf 0 rfl 0 1 rfl rfl (by kernel_rfl) (Open.opens_int Tryd.underlying3)
    obtain ⟨x1, e1, f1⟩ := Open.fld hf 1 rfl 1 1 rfl rfl (by kernel_rfl) (Open.opens_int Tryd.underlying36)
    simp at e0 e1
    subst e0 e1
    simp [Lit.wf, IntKind.min, IntKind.max, IntKind.bits, IntKind.signed] at f1
    exact ⟨(x0, x1.toNat), by rw [show ((x1.toNat : Nat) : Int) = x1 by omega], i64_bound f0, by show x1.toNat < _; omega⟩
theorem opens_mt {H : Type} {enc : TypeId × Value → H} {W : World} : Open.Opens enc Tryd.prog W 40 (fun (m : Met.Mt) cs => cs = m.vals.toList ∧ m.ok) := by
  refine Open.opens_struct Tryd.underlying40 fun cs hl hf => ?_
  rw [show Tryd.prog.cellsOf 40 = 7 by kernel_rfl] at hl
  match cs, hl with
  | [c0, c1, c2, c3, c4, c5, c6], _ =>
    obtain ⟨x0, e0, f0⟩ := Open.fld hf 0 rfl 0 1 rfl rfl (by kernel_rfl) (Open.opens_int Tryd.underlying3)
    obtain ⟨x1, e1, f1⟩ := Open.fld hf 1 rfl 1 1 rfl rfl (by kernel_rfl) (Open.opens_int Tryd.underlying3)
    obtain ⟨x2, e2, f2⟩ := Open.fld hf 2 rfl 2 1 rfl rfl (by kernel_rfl) (Open.opens_int Tryd.underlying3)
    obtain ⟨x3, e3, f3, f3'⟩ := Open.fld hf 3 rfl 3 2 rfl rfl (by kernel_rfl) opens_win
    obtain ⟨x4, e4, f4⟩ := Open.fld hf 4 rfl 5 1 rfl rfl (by kernel_rfl) (Open.opens_int Tryd.underlying3)
    obtain ⟨x5, e5, f5⟩ := Open.fld hf 5 rfl 6 1 rfl rfl (by kernel_rfl) (Open.opens_int Tryd.underlying3)
    simp at e0 e1 e2 e3 e4 e5
    obtain ⟨e30, e31⟩ := e3
    subst e0 e1 e2 e30 e31 e4 e5
    exact ⟨⟨x0, x1, x2, x3.1, x3.2, x4, x5⟩, rfl, ⟨i64_bound f0, i64_bound f1, i64_bound f2⟩, ⟨f3, f3'⟩, i64_bound f4, i64_bound f5⟩
theorem opens_tk {H : Type} {enc : TypeId × Value → H} {W : World} : Open.Opens enc Tryd.prog W 27 (fun (t : Tok.Tk) cs => cs = t.vals.toList ∧ t.ok) := by
  refine Open.opens_struct Tryd.underlying27 fun cs hl hf => ?_
  rw [show Tryd.prog.cellsOf 27 = 4 by kernel_rfl] at hl
  match cs, hl with
  | [c0, c1, c2, c3], _ =>
    obtain ⟨x0, e0, f0⟩ := Open.fld hf 0 rfl 0 1 rfl rfl (by kernel_rfl) (Open.opens_int Tryd.underlying3)
    obtain ⟨x1, e1, f1⟩ := Open.fld hf 1 rfl 1 1 rfl rfl (by kernel_rfl) (Open.opens_int Tryd.underlying3)
    obtain ⟨x2, e2, f2⟩ := Open.fld hf 2 rfl 2 1 rfl rfl (by kernel_rfl) (Open.opens_int Tryd.underlying3)
    obtain ⟨x3, e3, f3⟩ := Open.fld hf 3 rfl 3 1 rfl rfl (by kernel_rfl) (Open.opens_int Tryd.underlying3)
    simp at e0 e1 e2 e3
    subst e0 e1 e2 e3
    exact ⟨⟨x0, x1, x2, x3⟩, rfl, ⟨i64_bound f0, i64_bound f1⟩, i64_bound f2, i64_bound f3⟩
theorem opens_pr {H : Type} {enc : TypeId × Value → H} {W : World} : Open.Opens enc Tryd.prog W 211 (fun (t : Orc.Pr) cs => cs = t.enc ∧ t.ok) := by
  refine Open.opens_struct Tryd.underlying211 fun cs hl hf => ?_
  rw [show Tryd.prog.cellsOf 211 = 4 by kernel_rfl] at hl
  match cs, hl with
  | [c0, c1, c2, c3], _ =>
    obtain ⟨x0, e0, f0⟩ := Open.fld hf 0 rfl 0 1 rfl rfl (by kernel_rfl) (Open.opens_int Tryd.underlying3)
    obtain ⟨x1, e1, f1⟩ := Open.fld hf 1 rfl 1 1 rfl rfl (by kernel_rfl) (Open.opens_int Tryd.underlying3)
    obtain ⟨x2, e2, f2⟩ := Open.fld hf 2 rfl 2 1 rfl rfl (by kernel_rfl) (Open.opens_int Tryd.underlying3)
    obtain ⟨x3, e3, f3⟩ := Open.fld hf 3 rfl 3 1 rfl rfl (by kernel_rfl) (Open.opens_int Tryd.underlying3)
    simp at e0 e1 e2 e3
    subst e0 e1 e2 e3
    exact ⟨⟨x0, x1, x2, x3⟩, rfl, ⟨i64_bound f0, i64_bound f1⟩, i64_bound f2, i64_bound f3⟩
/-- An oracle by value: its pairs, where they lie. -/
structure Orv where
  ps : List Orc.Pr
  A : Option Addr
  c : Nat
theorem opens_or {H : Type} {enc : TypeId × Value → H} {W : World} : Open.Opens enc Tryd.prog W 58 (fun (o : Orv) cs => cs = [.slice o.A o.ps.length o.c] ∧ RdE 4 Orc.Pr.enc W o.A o.ps ∧ ∀ p ∈ o.ps, p.ok) := by
  refine Open.opens_struct Tryd.underlying58 fun cs hl hf => ?_
  rw [show Tryd.prog.cellsOf 58 = 1 by kernel_rfl] at hl
  match cs, hl with
  | [c0], _ =>
    obtain ⟨x0, A, c, e0, _, f0⟩ := Open.fld hf 0 rfl 0 1 rfl rfl (by kernel_rfl) (Open.opens_slice Tryd.underlying56 (by kernel_rfl : Tryd.prog.cellsOf 211 = 4) opens_pr)
    simp at e0
    subst e0
    obtain ⟨g0, g1⟩ := f0.toE'
    exact ⟨⟨x0, A, c⟩, rfl, g0, g1⟩
end Go.Proofs.YtccjcdecpgigpaaDoor.OpM
