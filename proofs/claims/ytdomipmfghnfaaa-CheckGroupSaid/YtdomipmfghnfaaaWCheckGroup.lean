/- The walk of CheckGroup. -/
import Derived.Test.YtdomipmfghnfaaaChkP
namespace Go.Proofs.Ytdomipmfghnfaaa.CheckGroup
open Go.RowKit Go.Proofs.Ytdomipmfghnfaaa.Base Go.Proofs.Ytdomipmfghnfaaa.Chk Go.Proofs.Ytdomipmfghnfaaa.ChkP
set_option linter.unusedVariables false
set_option linter.unusedSimpArgs false
theorem walk (x y z : Int) (w : World) (w0 : (Lit.int .i64 x).wf = true) (w1 : (Lit.int .i64 y).wf = true) (w2 : (Lit.int .i64 z).wf = true) :
    Calls Try.prog 10 #[.int .i64 x, .int .i64 y, .int .i64 z] w fun e w' => e = .returned (.bool true) ∧ Below w.heap.size w w' := by
  obtain ⟨x0, x1⟩ := i64_bound w0
  obtain ⟨y0, y1⟩ := i64_bound w1
  obtain ⟨z0, z1⟩ := i64_bound w2
  clear w0 w1 w2
  have da : dg (pk x 10) := by have := pk_bound x 10 (by decide); unfold dg; omega
  have db : dg (pk y 10) := by have := pk_bound y 10 (by decide); unfold dg; omega
  have dc : dg (pk z 10) := by have := pk_bound z 10 (by decide); unfold dg; omega
  have d0 : dg 0 := by unfold dg; decide
  have px := fun w => picked_any x 10 w x0 x1 (by decide)
  have py := fun w => picked_any y 10 w y0 y1 (by decide)
  have pz := fun w => picked_any z 10 w z0 z1 (by decide)
  generalize pk x 10 = a at *
  generalize pk y 10 = b at *
  generalize pk z 10 = c at *
  have dab := thenI_dg a b da db
  have dbc := thenI_dg b c db dc
  have dv := backI_dg a da
  have e1 : (thenI (thenI a b) c == thenI a (thenI b c)) = true := beq_iff_eq.mpr (assocI a b c da db dc)
  have e2 : (thenI a (backI a) == 0) = true := beq_iff_eq.mpr (inv_rI a da)
  have e3 : (thenI (backI a) a == 0) = true := beq_iff_eq.mpr (inv_lI a da)
  have e4 : (thenI a 0 == a) = true := beq_iff_eq.mpr (one_rI a da)
  have PX := Lib.hid px
  have PY := Lib.hid py
  have PZ := Lib.hid pz
  clear px py pz
  go_enter Try.func10, Try.ntmps10
  go_wp2_with (first | (go_at_call 15; (first | (with_reducible refine (PX.out _).mono ?_) | (with_reducible refine (PY.out _).mono ?_) | (with_reducible refine (PZ.out _).mono ?_)); rintro e w' ⟨rfl, rfl⟩) | (go_at_call 26; refine (mul_any _ _ _ (by assumption) (by assumption)).mono ?_; rintro e w' ⟨rfl, rfl⟩) | (go_at_call 27; refine (inv_any _ _ (by assumption)).mono ?_; rintro e w' ⟨rfl, rfl⟩))
  go_ret
  exact ⟨rfl, Below.refl _ _⟩
end Go.Proofs.Ytdomipmfghnfaaa.CheckGroup
