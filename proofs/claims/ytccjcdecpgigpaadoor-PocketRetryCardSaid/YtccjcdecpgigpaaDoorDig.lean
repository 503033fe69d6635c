/- Plain: decimal digits of a number. -/
import Derived.Test.YtccjcdecpgigpaaDoorBase
namespace Go.Proofs.YtccjcdecpgigpaaDoor.Dig
open Go.RowKit Go.Proofs.YtccjcdecpgigpaaDoor.Base
set_option linter.unusedVariables false
set_option linter.unusedSimpArgs false
/-- The digits of a number, the last first. -/
def digR (n : Nat) : List UInt8 := if h : n < 10 then [UInt8.ofNat (48 + n)] else UInt8.ofNat (48 + n % 10) :: digR (n / 10)
termination_by n
decreasing_by omega
theorem digR_small {n : Nat} (h : n < 10) : digR n = [UInt8.ofNat (48 + n)] := by rw [digR]; simp [h]
theorem digR_big {n : Nat} (h : ¬ n < 10) : digR n = UInt8.ofNat (48 + n % 10) :: digR (n / 10) := by rw [digR]; simp [h]
/-- The digits of a number. -/
def decS (n : Nat) : List UInt8 := (digR n).reverse
theorem digR_len : ∀ (k n : Nat), n < 10 ^ (k + 1) → (digR n).length ≤ k + 1
  | 0, n, h => by rw [digR_small (by simpa using h)]; simp
  | k + 1, n, h => by
    by_cases hs : n < 10
    · rw [digR_small hs]; simp
    · rw [digR_big hs, List.length_cons]
      have := digR_len k (n / 10) (by rw [Nat.pow_succ] at h; omega)
      omega
theorem digR_pos (n : Nat) : 1 ≤ (digR n).length := by
  by_cases hs : n < 10
  · rw [digR_small hs]; simp
  · rw [digR_big hs, List.length_cons]; omega
/-- What digits say. -/
def valL (l : List UInt8) : Nat := l.foldl (fun v c => v * 10 + (c.toNat - 48)) 0
theorem valL_snoc (l : List UInt8) (c : UInt8) : valL (l ++ [c]) = valL l * 10 + (c.toNat - 48) := by
  unfold valL; rw [List.foldl_append]; rfl
def isDig (c : UInt8) : Bool := decide (48 ≤ c.toNat) && decide (c.toNat ≤ 57)
theorem dig_byte {d : Nat} (h : d < 10) : (UInt8.ofNat (48 + d)).toNat = 48 + d := by
  rw [UInt8.toNat_ofNat']
  exact Nat.mod_eq_of_lt (by omega)
theorem val_decS : ∀ n, valL (decS n) = n := by
  intro n
  induction n using Nat.strongRecOn with
  | ind n ih =>
    unfold decS
    by_cases hs : n < 10
    · rw [digR_small hs]
      show 0 * 10 + ((UInt8.ofNat (48 + n)).toNat - 48) = n
      rw [dig_byte hs]; omega
    · rw [digR_big hs, List.reverse_cons, valL_snoc]
      have := ih (n / 10) (by omega)
      unfold decS at this
      rw [this, dig_byte (Nat.mod_lt _ (by decide))]
      omega
theorem dec_digits : ∀ n, ∀ c ∈ digR n, isDig c = true := by
  intro n
  induction n using Nat.strongRecOn with
  | ind n ih =>
    intro c hc
    by_cases hs : n < 10
    · rw [digR_small hs] at hc
      rw [List.mem_singleton.1 hc]
      unfold isDig
      rw [dig_byte hs]
      simp; omega
    · rw [digR_big hs] at hc
      rcases List.mem_cons.1 hc with h | h
      · subst h
        unfold isDig
        rw [dig_byte (Nat.mod_lt _ (by decide))]
        simp; omega
      · exact ih (n / 10) (by omega) c h
theorem decS_digits (n : Nat) : ∀ c ∈ decS n, isDig c = true := fun c hc => dec_digits n c (by unfold decS at hc; simpa using hc)
theorem decS_len (k n : Nat) (h : n < 10 ^ (k + 1)) : (decS n).length ≤ k + 1 := by
  unfold decS; rw [List.length_reverse]; exact digR_len k n h
theorem decS_pos (n : Nat) : 1 ≤ (decS n).length := by
  unfold decS; rw [List.length_reverse]; exact digR_pos n
/-- No digit 0 ahead, but of 0 itself. -/
theorem digR_last : ∀ n, 10 ≤ n → ∀ c, (digR n).getLast? = some c → c ≠ 48 := by
  intro n
  induction n using Nat.strongRecOn with
  | ind n ih =>
    intro hn c hc
    rw [digR_big (by omega)] at hc
    have hne : digR (n / 10) ≠ [] := by
      intro e
      have := digR_pos (n / 10)
      rw [e] at this
      simp at this
    rw [List.getLast?_cons, List.getLast?_eq_some_getLast hne] at hc
    simp at hc
    by_cases hs : n / 10 < 10
    · have : digR (n / 10) = [UInt8.ofNat (48 + n / 10)] := digR_small hs
      have hl : (digR (n / 10)).getLast hne = UInt8.ofNat (48 + n / 10) := by simp [this]
      rw [hl] at hc
      rw [← hc]
      intro e
      have h1 := dig_byte hs
      rw [e] at h1
      have h2 : (48 : UInt8).toNat = 48 := rfl
      omega
    · exact ih (n / 10) (by omega) (by omega) c (by rw [List.getLast?_eq_some_getLast hne, hc])
theorem decS_head (n : Nat) (hn : 10 ≤ n) (c : UInt8) (h : (decS n).head? = some c) : c ≠ 48 := by
  unfold decS at h
  rw [List.head?_reverse] at h
  exact digR_last n hn c h
theorem decS_len2 (n : Nat) (h : 2 ≤ (decS n).length) : 10 ≤ n := by
  apply Decidable.byContradiction
  intro hn
  unfold decS at h
  rw [digR_small (by omega)] at h
  simp at h
end Go.Proofs.YtccjcdecpgigpaaDoor.Dig
