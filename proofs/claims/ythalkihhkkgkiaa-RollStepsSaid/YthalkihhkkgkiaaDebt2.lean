/- Contracts of package debt: faults, parts, ageing. -/
import Derived.Test.YthalkihhkkgkiaaDebt
namespace Go.Proofs.Ythalkihhkkgkiaa.Debt
open Go.RowKit Go.Proofs.Ythalkihhkkgkiaa.Base
set_option linter.unusedVariables false
set_option linter.unusedSimpArgs false
set_option maxRecDepth 20000

theorem fault_ok (xs : List Db) (A : Option Addr) (c : Nat) (w : World) (hx : RdE 2 Db.enc w A xs) (hn : xs.length ≤ 8) (hk : ∀ x ∈ xs, x.ok) :
    Calls Try.prog 49 #[.slice A xs.length c] w fun e w' => e = .returned (.int .i64 0) ∧ Below w.heap.size w w' := by
  have HX := Lib.hid hx
  have HK := Lib.hid hk
  clear hx hk
  go_enter Try.func49, Try.ntmps49
  go_wp2
  go_loopw [10] (fun i wr => ∃ k : Nat, k ≤ xs.length ∧ i = .int .i64 k ∧ Below w.heap.size w wr) (fun i _ => xs.length - (intOf i).toNat)
  case atStart => exact ⟨0, by omega, rfl, Below.refl _ _⟩
  case round =>
    obtain ⟨k, hk, rfl, hb⟩ := hrel
    have HB := Lib.hid hb
    clear hb
    by_cases hlt : k < xs.length
    · obtain ⟨ad, rfl, hc0, hc1⟩ := (HX.out.below HB.out).at2 k hlt _ _ rfl
      have hki : (k : Int) < (xs.length : Int) := by omega
      have hk0 : (0 : Int) ≤ (k : Int) := by omega
      obtain ⟨⟨x0, x1⟩, x2, x3⟩ := HK.out xs[k] (List.getElem_mem hlt)
      go_wp2
      go_roundw
      case rel => exact ⟨k + 1, by omega, by go_num, blw_alloc HB.out _⟩
      case measure => simp [intOf]; omega
    · obtain rfl : k = xs.length := by omega
      go_wp2
      go_ret
      exact ⟨rfl, HB.out⟩




















end Go.Proofs.Ythalkihhkkgkiaa.Debt
