/- Plain: a meter's number, in digits (begun, for NumberSlip). -/
import Derived.Test.YtfdgjaahmbjnpaaDoorRest
import Derived.Lib.ItoaNum
import Derived.Shelf.Strconv.Atoi
namespace Go.Proofs.YtfdgjaahmbjnpaaDoor.Rcp
open Go Go.RowKit
set_option linter.unusedVariables false
theorem num_len (m : Nat) (h : m < 50) : Lib.nDigits (10000000000 + m) = 11 := Lib.nDigits_unique 10 _ (by omega) (by omega)
theorem dec_len (m : Nat) (h : m < 50) : (Lib.decDigits (10000000000 + m)).length = 11 := by rw [Lib.decDigits_length, num_len m h]
theorem itoa_num (m : Nat) : Lib.itoa (10000000000 + (m : Int)) = Lib.decDigits (10000000000 + m) := by
  unfold Lib.itoa
  rw [if_neg (by omega)]
  congr 1
/-- The ten digits behind the one: 0000000000 + m. -/
def tenL (m : Nat) : List UInt8 := (Lib.decDigits (10000000000 + m)).drop 1
theorem ten_len (m : Nat) (h : m < 50) : (tenL m).length = 10 := by unfold tenL; rw [List.length_drop, dec_len m h]
theorem ten_dig (m : Nat) (h : m < 50) : tenL m = [48, 48, 48, 48, 48, 48, 48, 48, UInt8.ofNat (48 + m / 10), UInt8.ofNat (48 + m % 10)] := by
  have hk : ∀ k : Fin 50, tenL k.val = [48, 48, 48, 48, 48, 48, 48, 48, UInt8.ofNat (48 + k.val / 10), UInt8.ofNat (48 + k.val % 10)] := by
    intro k
    unfold tenL
    rw [Lib.decDigits_eq, num_len k.val k.isLt]
    revert k
    decide +kernel
  exact hk ⟨m, h⟩
/-- These ten digits read as the number. -/
theorem ten_atoi (m : Nat) (h : m < 50) : Lib.atoi (tenL m) = some (m : Int) := by
  have hk : ∀ k : Fin 50, Lib.atoi [48, 48, 48, 48, 48, 48, 48, 48, UInt8.ofNat (48 + k.val / 10), UInt8.ofNat (48 + k.val % 10)] = some (k.val : Int) := by decide +kernel
  rw [ten_dig m h]
  exact hk ⟨m, h⟩
end Go.Proofs.YtfdgjaahmbjnpaaDoor.Rcp
