/- Contracts of package calendar: the small ones. -/
import Derived.Test.YtjlihpbnhojdgaaBase
import Derived.Test.YtjlihpbnhojdgaaApp
namespace Go.Proofs.Ytjlihpbnhojdgaa.Cal
open Go.RowKit Go.Proofs.Ytjlihpbnhojdgaa.Base
set_option linter.unusedVariables false
set_option linter.unusedSimpArgs false
set_option maxRecDepth 20000

def leapB (y : Int) : Bool := y % 4 == 0 && (y % 100 != 0 || y % 400 == 0)
def longI (y m : Int) : Int := if m = 4 ∨ m = 6 ∨ m = 9 ∨ m = 11 then 30 else if m = 2 then (if leapB y then 29 else 28) else 31
def aheadI (y : Int) : Int := (y - 1) * 365 + (y - 1) / 4 - (y - 1) / 100 + (y - 1) / 400
def yearI (y : Int) : Int := if leapB y then 366 else 365
theorem ahead_next (y : Int) : aheadI (y + 1) = aheadI y + yearI y := by
  have h : leapB y = true ↔ (y % 4 = 0 ∧ (y % 100 ≠ 0 ∨ y % 400 = 0)) := by unfold leapB; simp
  unfold yearI
  by_cases hl : leapB y = true
  · rw [if_pos hl]
    have := h.1 hl
    unfold aheadI
    omega
  · rw [if_neg hl]
    have : ¬ (y % 4 = 0 ∧ (y % 100 ≠ 0 ∨ y % 400 = 0)) := fun x => hl (h.2 x)
    unfold aheadI
    omega
theorem long_bd (y m : Int) : 28 ≤ longI y m ∧ longI y m ≤ 31 := by
  unfold longI
  split
  · omega
  · split
    · split <;> omega
    · omega
theorem leap_any (y : Int) (w : World) (h0 : 0 ≤ y) (h1 : y ≤ 10000) :
    Calls Try.prog 70 #[.int .i64 y] w fun e w' => e = .returned (.bool (leapB y)) ∧ w = w' := by
  by_cases a : y % 4 = 0 <;> by_cases b : y % 100 = 0 <;> by_cases c : y % 400 = 0
  all_goals
    have a' : (y % 4 == 0) = decide (y % 4 = 0) := by rw [Bool.eq_iff_iff]; simp
    have b' : (y % 100 != 0) = !decide (y % 100 = 0) := by rw [Bool.eq_iff_iff]; simp
    have c' : (y % 400 == 0) = decide (y % 400 = 0) := by rw [Bool.eq_iff_iff]; simp
    simp only [a, b, c, decide_true, decide_false, Bool.not_true, Bool.not_false] at a' b' c'
    go_enter Try.func70, Try.ntmps70
    go_wp2
    go_ret
    exact ⟨ret_bool (by unfold leapB; simp_all), rfl⟩
theorem ahead_any (y : Int) (w : World) (h0 : 1 ≤ y) (h1 : y ≤ 10000) :
    Calls Try.prog 69 #[.int .i64 y] w fun e w' => e = .returned (.int .i64 (aheadI y)) ∧ w = w' := by
  go_enter Try.func69, Try.ntmps69
  go_wp2
  go_ret
  exact ⟨rfl, rfl⟩
theorem long_any (y m : Int) (w : World) (h0 : 0 ≤ y) (h1 : y ≤ 10000) :
    Calls Try.prog 49 #[.int .i64 y, .int .i64 m] w fun e w' => e = .returned (.int .i64 (longI y m)) ∧ w = w' := by
  by_cases a : m = 4
  · subst a
    go_enter Try.func49, Try.ntmps49
    go_wp2
    go_ret
    exact ⟨rfl, rfl⟩
  by_cases b : m = 6
  · subst b
    go_enter Try.func49, Try.ntmps49
    go_wp2
    go_ret
    exact ⟨rfl, rfl⟩
  by_cases c : m = 9
  · subst c
    go_enter Try.func49, Try.ntmps49
    go_wp2
    go_ret
    exact ⟨rfl, rfl⟩
  by_cases d : m = 11
  · subst d
    go_enter Try.func49, Try.ntmps49
    go_wp2
    go_ret
    exact ⟨rfl, rfl⟩
  have a' : (m == 4) = false := by simp [a]
  have b' : (m == 6) = false := by simp [b]
  have c' : (m == 9) = false := by simp [c]
  have d' : (m == 11) = false := by simp [d]
  have hl0 : longI y m = if m = 2 then (if leapB y then 29 else 28) else 31 := by unfold longI; rw [if_neg (by omega)]
  by_cases e : m = 2
  · have e' : (m == 2) = true := by simp [e]
    have hl1 : longI y m = if leapB y then 29 else 28 := by rw [hl0, if_pos e]
    have HL := Lib.hid hl1
    clear hl0 hl1 a b c d e
    cases hlp : leapB y
    all_goals
      have HLP := Lib.hid hlp
      clear hlp
      go_enter Try.func49, Try.ntmps49
      go_wp2_with (go_at_call 70; refine (leap_any _ _ h0 h1).mono ?_; rw [HLP.out]; rintro e w' ⟨rfl, rfl⟩)
      go_ret
      exact ⟨by rw [HL.out, HLP.out]; rfl, rfl⟩
  · have e' : (m == 2) = false := by simp [e]
    have hl1 : longI y m = 31 := by rw [hl0, if_neg e]
    have HL := Lib.hid hl1
    clear hl0 hl1 a b c d e
    go_enter Try.func49, Try.ntmps49
    go_wp2
    go_ret
    exact ⟨by rw [HL.out]; rfl, rfl⟩
end Go.Proofs.Ytjlihpbnhojdgaa.Cal
