/- Opening an event; what words say of it. -/
import Derived.Test.YtjlihpbnhojdgaaEv5
import Derived.Test.YtjlihpbnhojdgaaOpenS
namespace Go.Proofs.Ytjlihpbnhojdgaa.Ev
open Go.RowKit Go.Proofs.Ytjlihpbnhojdgaa.Base Go.ChangeShapes Go.WideShapes Go.ChangeAt
set_option linter.unusedVariables false
set_option linter.unusedSimpArgs false
set_option maxRecDepth 20000
theorem opens_bill {H : Type} {enc : TypeId × Value → H} {W : World} : Open.Opens enc Try.prog W 74 (fun (x : Int × Int × Int × Int × Int × Int × Int) cs => cs = [.int .i64 x.1, .int .i64 x.2.1, .int .i64 x.2.2.1, .int .i64 x.2.2.2.1, .int .i64 x.2.2.2.2.1, .int .i64 x.2.2.2.2.2.1, .int .i64 x.2.2.2.2.2.2]) := by
  refine Open.opens_struct Try.underlying74 fun cs hl hf => ?_
  rw [show Try.prog.cellsOf 74 = 7 by kernel_rfl] at hl
  match cs, hl with
  | [c0, c1, c2, c3, c4, c5, c6], _ =>
    obtain ⟨x0, e0, _⟩ := Open.fld hf 0 rfl 0 1 rfl rfl (by kernel_rfl) (Open.opens_int Try.underlying3)
    obtain ⟨x1, e1, _⟩ := Open.fld hf 1 rfl 1 1 rfl rfl (by kernel_rfl) (Open.opens_int Try.underlying3)
    obtain ⟨x2, e2, _⟩ := Open.fld hf 2 rfl 2 1 rfl rfl (by kernel_rfl) (Open.opens_int Try.underlying3)
    obtain ⟨x3, e3, _⟩ := Open.fld hf 3 rfl 3 1 rfl rfl (by kernel_rfl) (Open.opens_int Try.underlying3)
    obtain ⟨x4, e4, _⟩ := Open.fld hf 4 rfl 4 1 rfl rfl (by kernel_rfl) (Open.opens_int Try.underlying3)
    obtain ⟨x5, e5, _⟩ := Open.fld hf 5 rfl 5 1 rfl rfl (by kernel_rfl) (Open.opens_int Try.underlying3)
    obtain ⟨x6, e6, _⟩ := Open.fld hf 6 rfl 6 1 rfl rfl (by kernel_rfl) (Open.opens_int Try.underlying3)
    simp at e0 e1 e2 e3 e4 e5 e6
    subst e0 e1 e2 e3 e4 e5 e6
    exact ⟨(x0, x1, x2, x3, x4, x5, x6), rfl⟩
theorem opens_dbt {H : Type} {enc : TypeId × Value → H} {W : World} : Open.Opens enc Try.prog W 76 (fun (x : Int × Int) cs => cs = [.int .i64 x.1, .int .i64 x.2]) := by
  refine Open.opens_struct Try.underlying76 fun cs hl hf => ?_
  rw [show Try.prog.cellsOf 76 = 2 by kernel_rfl] at hl
  match cs, hl with
  | [c0, c1], _ =>
    obtain ⟨x0, e0, _⟩ := Open.fld hf 0 rfl 0 1 rfl rfl (by kernel_rfl) (Open.opens_int Try.underlying3)
    obtain ⟨x1, e1, _⟩ := Open.fld hf 1 rfl 1 1 rfl rfl (by kernel_rfl) (Open.opens_int Try.underlying3)
    simp at e0 e1
    subst e0 e1
    exact ⟨(x0, x1), rfl⟩
theorem opens_ev {H : Type} {enc : TypeId × Value → H} {W : World} : Open.Opens enc Try.prog W 78 (fun (v : Ev) cs => cs = v.l) := by
  refine Open.opens_struct Try.underlying78 fun cs hl hf => ?_
  rw [show Try.prog.cellsOf 78 = 13 by kernel_rfl] at hl
  match cs, hl with
  | [c0, c1, c2, c3, c4, c5, c6, c7, c8, c9, c10, c11, c12], _ =>
    obtain ⟨x0, e0, _⟩ := Open.fld hf 0 rfl 0 1 rfl rfl (by kernel_rfl) (Open.opens_int Try.underlying3)
    obtain ⟨x1, e1, _⟩ := Open.fld hf 1 rfl 1 1 rfl rfl (by kernel_rfl) (Open.opens_int Try.underlying3)
    obtain ⟨x2, e2, _⟩ := Open.fld hf 2 rfl 2 1 rfl rfl (by kernel_rfl) (Open.opens_int Try.underlying3)
    obtain ⟨x3, e3⟩ := Open.fld hf 3 rfl 3 7 rfl rfl (by kernel_rfl) (opens_bill)
    obtain ⟨x4, e4, _⟩ := Open.fld hf 4 rfl 10 1 rfl rfl (by kernel_rfl) (Open.opens_int Try.underlying3)
    obtain ⟨x5, e5⟩ := Open.fld hf 5 rfl 11 2 rfl rfl (by kernel_rfl) (opens_dbt)
    simp at e0 e1 e2 e3 e4 e5
    obtain ⟨g0, g1, g2, g3, g4, g5, g6⟩ := e3
    obtain ⟨g7, g8⟩ := e5
    subst e0 e1 e2 g0 g1 g2 g3 g4 g5 g6 e4 g7 g8
    exact ⟨⟨x0, x1, x2, x3.1, x3.2.1, x3.2.2.1, x3.2.2.2.1, x3.2.2.2.2.1, x3.2.2.2.2.2.1, x3.2.2.2.2.2.2, x4, x5.1, x5.2⟩, rfl⟩
theorem back_ev (v : Ev) (h : okE v) : evOf v.ws = v := by
  have hl := okE_low v h
  obtain ⟨k, me, mo, id, te, de, fe, pr, ch, un, tag, ow, bp⟩ := v
  unfold Ev.f at hl
  simp only [List.mem_cons, List.not_mem_nil, or_false, forall_eq_or_imp, forall_eq] at hl
  obtain ⟨⟨a0, b0⟩, ⟨a1, b1⟩, ⟨a2, b2⟩, ⟨a3, b3⟩, ⟨a4, b4⟩, ⟨a5, b5⟩, ⟨a6, b6⟩, ⟨a7, b7⟩, ⟨a8, b8⟩, ⟨a9, b9⟩, ⟨a10, b10⟩, ⟨a11, b11⟩, ⟨a12, b12⟩⟩ := hl
  unfold evOf Ev.ws Ev.f
  simp only [List.map_cons, List.map_nil, List.getD_cons_zero, List.getD_cons_succ, UInt32.toNat_ofNat', Ev.mk.injEq]
  refine ⟨?_, ?_, ?_, ?_, ?_, ?_, ?_, ?_, ?_, ?_, ?_, ?_, ?_⟩ <;> omega
theorem ws_ev (l : List UInt32) (hl : l.length = 13) : (evOf l).ws = l := by
  match l, hl with
  | [x0, x1, x2, x3, x4, x5, x6, x7, x8, x9, x10, x11, x12], _ => simp [evOf, Ev.ws, Ev.f]
theorem ws_len (v : Ev) : v.ws.length = 13 := rfl
theorem decode_13 (l : List UInt32) (A : Option Addr) (q : Nat) (w : World) (hr : RdE 1 encW w A l) (hl : l.length = 13) : Calls Try.prog 34 #[.slice A 13 q] w fun e w' => e = .returned (.tuple #[.agg (if okE (evOf l) then evOf l else zeroEv).l.toArray, .int .i64 (if okE (evOf l) then 0 else 5)]) ∧ Below w.heap.size w w' := by
  have h := decode_any l A q w hr hl
  rwa [hl] at h
end Go.Proofs.Ytjlihpbnhojdgaa.Ev
