/- Contracts of package debt: faults, parts, ageing. -/
import Derived.Test.YtfdgjaahmbjnpaaDebt
namespace Go.Proofs.Ytfdgjaahmbjnpaa.Debt
open Go.RowKit Go.Proofs.Ytfdgjaahmbjnpaa.Base
set_option linter.unusedVariables false
set_option linter.unusedSimpArgs false
set_option maxRecDepth 20000

theorem fault_ok (xs : List Db) (A : Option Addr) (c : Nat) (w : World) (hx : RdE 2 Db.enc w A xs) (hn : xs.length ≤ 8) (hk : ∀ x ∈ xs, x.ok) :
    Calls Try.prog 40 #[.slice A xs.length c] w fun e w' => e = .returned (.int .i64 0) ∧ Below w.heap.size w w' := by
  have HX := Lib.hid hx
  have HK := Lib.hid hk
  clear hx hk
  go_enter Try.func40, Try.ntmps40
  go_wp2
  go_loopw [10] (fun i wr => ∃ k : Nat, k ≤ xs.length ∧ i = .int .i64 k ∧ Below w.heap.size w wr) (fun i _ => xs.length - (intOf i).toNat)
  case atStart => exact ⟨0, by omega, rfl, Below.refl _ _⟩
  case round =>
    obtain ⟨k, hk, rfl, hb⟩ := hrel
    have HB := Lib.hid hb
    clear hb
    by_cases hlt : k < xs.length
    · obtain ⟨ad, rfl, hc0, hc1⟩ := (HX.out.below HB.out).at2 k hlt _ _ rfl
      have hki : (k : Int) < (xs.length : Int) := by omega
      have hk0 : (0 : Int) ≤ (k : Int) := by omega
      obtain ⟨⟨x0, x1⟩, x2, x3⟩ := HK.out xs[k] (List.getElem_mem hlt)
      go_wp2
      go_roundw
      case rel => exact ⟨k + 1, by omega, by go_num, blw_alloc HB.out _⟩
      case measure => simp [intOf]; omega
    · obtain rfl : k = xs.length := by omega
      go_wp2
      go_ret
      exact ⟨rfl, HB.out⟩

theorem within_any (n lo hi : Int) (w : World) :
    Calls Try.prog 41 #[.int .i64 n, .int .i64 lo, .int .i64 hi] w fun e w' => e = .returned (.bool (decide (lo ≤ n ∧ n ≤ hi))) ∧ w = w' := by
  go_enter Try.func41, Try.ntmps41
  by_cases h1 : lo ≤ n <;> by_cases h2 : n ≤ hi
  all_goals
    go_wp2
    go_ret
    exact ⟨ret_bool (by simp [h1, h2]), rfl⟩

theorem part_any (n bp : Int) (w : World) (h0 : 0 ≤ n) (h1 : n ≤ 1000000000000) (h2 : 0 ≤ bp) (h3 : bp ≤ 10000) :
    Calls Try.prog 21 #[.int .i64 n, .int .i64 bp] w fun e w' => e = .returned (.tuple #[.int .i64 (n * bp / 10000), .int .i64 0]) ∧ w = w' := by
  have e1 := Lib.hid (show decide ((0 : Int) ≤ n ∧ n ≤ 1000000000000) = true by rw [decide_eq_true_iff]; exact ⟨h0, h1⟩)
  have e2 := Lib.hid (show decide ((0 : Int) ≤ bp ∧ bp ≤ 10000) = true by rw [decide_eq_true_iff]; exact ⟨h2, h3⟩)
  have hm0 : 0 ≤ n * bp := Int.mul_nonneg h0 h2
  have hm1 : n * bp ≤ 10000000000000000 := Int.le_trans (Int.mul_le_mul h1 h3 h2 (by decide)) (by decide)
  go_enter Try.func21, Try.ntmps21
  go_wp2_with ((go_at_call 41; refine (within_any _ _ _ _).mono ?_; rintro e w' ⟨rfl, rfl⟩; first | rw [e1.out] | rw [e2.out]))
  go_ret2
  exact ⟨ret2 (by first | rfl | (rw [Int.tdiv_eq_ediv_of_nonneg hm0]) | (rw [wrap64 _ (by omega) (by omega), wrap64 _ (by omega) (by omega)])), rfl⟩
end Go.Proofs.Ytfdgjaahmbjnpaa.Debt
