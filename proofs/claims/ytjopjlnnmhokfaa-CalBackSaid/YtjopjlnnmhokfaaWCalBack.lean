/- The walk of CalBack. -/
import Derived.Test.YtjopjlnnmhokfaaDay
namespace Go.Proofs.Ytjopjlnnmhokfaa.CalBack
open Go.RowKit Go.Proofs.Ytjopjlnnmhokfaa.Base Go.Proofs.Ytjopjlnnmhokfaa.Cal
set_option linter.unusedVariables false
set_option linter.unusedSimpArgs false
set_option maxRecDepth 20000
theorem walk (x : Int) (w : World) (wx : (Lit.int .i64 x).wf = true) :
    Calls Try.prog 12 #[.int .i64 x] w fun e w' => e = .returned (.bool true) ∧ Below w.heap.size w w' := by
  obtain ⟨x0, x1⟩ := i64_bound wx
  clear wx
  obtain ⟨p0, p1⟩ := pk_bound x 73049 (by omega)
  have hp := fun w => picked_any x 73049 w x0 x1 (by omega)
  generalize pk x 73049 = n at *
  have HP := Lib.hid hp
  clear hp
  go_enter Try.func12, Try.ntmps12
  go_wp2_with (first | (go_at_call 15; refine (HP.out _).mono ?_; rintro e w' ⟨rfl, rfl⟩) | fail)
  go_at_call 16
  refine (dateOf_any n _ p0 (by omega)).mono ?_
  rintro e w1 ⟨⟨y, m, d, rfl, hd⟩, hb⟩
  have HD := Lib.hid hd
  have HB := Lib.hid hb
  clear hd hb
  go_wp2_with (go_at_call 35; refine (day_any n y m d _ HD.out).mono ?_; rintro e w2 ⟨rfl, hb⟩; have HB2 := Lib.hid hb; clear hb)
  go_ret
  exact ⟨by first | rfl | exact ret_bool (by simp), below_then' (blw_alloc HB.out _) HB2.out⟩
end Go.Proofs.Ytjopjlnnmhokfaa.CalBack
