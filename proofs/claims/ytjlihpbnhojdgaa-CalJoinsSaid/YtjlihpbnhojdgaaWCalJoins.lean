/- The walk of CalJoins. -/
import Derived.Test.YtjlihpbnhojdgaaMonth
namespace Go.Proofs.Ytjlihpbnhojdgaa.CalJoins
open Go.RowKit Go.Proofs.Ytjlihpbnhojdgaa.Base Go.Proofs.Ytjlihpbnhojdgaa.Cal
set_option linter.unusedVariables false
set_option linter.unusedSimpArgs false
set_option maxRecDepth 20000
theorem walk (x : Int) (w : World) (wx : (Lit.int .i64 x).wf = true) :
    Calls Try.prog 7 #[.int .i64 x] w fun e w' => e = .returned (.bool true) ∧ Below w.heap.size w w' := by
  obtain ⟨x0, x1⟩ := i64_bound wx
  clear wx
  obtain ⟨p0, p1⟩ := pk_bound x 2399 (by omega)
  have hp := fun w => picked_any x 2399 w x0 x1 (by omega)
  generalize pk x 2399 = k at *
  have HP := Lib.hid hp
  clear hp
  have h1 := start_first k p0 (by omega)
  have h2 := start_last k p0 (by omega)
  obtain ⟨a0, a1⟩ := date_range h1
  obtain ⟨b0, b1⟩ := date_range h2
  obtain ⟨l0, l1⟩ := long_bd (yrOf k) (moOf k)
  have hn := start_next k p0 p1
  have hy : (yrOf k - 2000) * 12 + moOf k - 1 = k := by unfold yrOf moOf; omega
  have M1 := fun w => month_any _ _ _ _ w h1
  have M2 := fun w => month_any _ _ _ _ w h2
  have D1 := fun w => days_any k w p0 (by omega)
  have D2 := fun w => days_any (k + 1) w (by omega) (by omega)
  rw [hy] at M1 M2
  rw [hn] at D2
  have hl : 28 ≤ lenI k ∧ lenI k ≤ 31 := ⟨l0, l1⟩
  obtain ⟨l0, l1⟩ := hl
  generalize startI k = st at *
  generalize lenI k = ln at *
  generalize lenI (k + 1) = ln2 at *
  have HM1 := Lib.hid M1
  have HM2 := Lib.hid M2
  have HD1 := Lib.hid D1
  have HD2 := Lib.hid D2
  clear M1 M2 D1 D2 h1 h2 hn hy
  have e1 : (st + ln == st + ln - 1 + 1) = true := beq_iff_eq.mpr (by omega)
  have e2 : decide (st + ln - 1 - st ≥ 27) = true := decide_eq_true (by omega)
  have e3 : decide (st + ln - 1 - st ≤ 30) = true := decide_eq_true (by omega)
  go_enter Try.func7, Try.ntmps7
  go_wp2_with (first | (go_at_call 15; refine (HP.out _).mono ?_; rintro e w' ⟨rfl, rfl⟩) | fail)
  go_at_call 24
  refine (HD1.out _).mono ?_
  rintro e w1 ⟨rfl, hb1⟩
  have HB1 := Lib.hid hb1
  clear hb1
  go_wp2_with (fail)
  go_at_call 24
  refine (HD2.out _).mono ?_
  rintro e w2 ⟨rfl, hb2⟩
  have HB2 := Lib.hid hb2
  clear hb2
  go_wp2_with (fail)
  go_at_call 25
  refine (HM1.out _).mono ?_
  rintro e w3 ⟨rfl, hb3⟩
  have HB3 := Lib.hid hb3
  clear hb3
  go_wp2_with (fail)
  go_at_call 25
  refine (HM2.out _).mono ?_
  rintro e w4 ⟨rfl, hb4⟩
  have HB4 := Lib.hid hb4
  clear hb4
  go_wp2
  go_ret
  exact ⟨by first | rfl | exact ret_bool (by simp), below_then' (below_then' (below_then' HB1.out HB2.out) HB3.out) HB4.out⟩
end Go.Proofs.Ytjlihpbnhojdgaa.CalJoins
