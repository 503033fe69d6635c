/- Plain: decimal numerals and their values. -/
import Derived.Lib.ItoaNum
namespace Go.Proofs.YtccjcdecpgigpaaDoor.Dec
open Go
set_option linter.unusedVariables false
def dgB (c : UInt8) : Bool := 48 ≤ c.toNat && c.toNat ≤ 57
theorem dgB_iff {c : UInt8} : dgB c = true ↔ 48 ≤ c.toNat ∧ c.toNat ≤ 57 := by unfold dgB; simp
/-- The value of a text of digits. -/
def valL (l : List UInt8) : Nat := l.foldl (fun n c => n * 10 + (c.toNat - 48)) 0
theorem valL_snoc (l : List UInt8) (c : UInt8) : valL (l ++ [c]) = valL l * 10 + (c.toNat - 48) := by
  unfold valL; rw [List.foldl_append]; rfl
theorem valL_nil : valL [] = 0 := rfl
theorem snoc_ind {P : List UInt8 → Prop} (h0 : P []) (hs : ∀ l c, P l → P (l ++ [c])) (l : List UInt8) : P l := by
  have h : ∀ n, ∀ l : List UInt8, l.length = n → P l := by
    intro n
    induction n with
    | zero => intro l hl; rw [List.length_eq_zero_iff.1 hl]; exact h0
    | succ n ih =>
      intro l hl
      have hne : l ≠ [] := by intro h; rw [h] at hl; simp at hl
      rw [← List.dropLast_concat_getLast hne]
      exact hs _ _ (ih _ (by simp [hl]))
  exact h _ l rfl
theorem valL_append (a b : List UInt8) : valL (a ++ b) = valL a * 10 ^ b.length + valL b := by
  induction b using snoc_ind with
  | h0 => simp [valL_nil]
  | hs l c ih =>
    rw [← List.append_assoc, valL_snoc, ih, valL_snoc, List.length_append]
    simp only [List.length_cons, List.length_nil, Nat.zero_add, Nat.pow_succ]
    rw [Nat.add_mul, Nat.mul_assoc]
    omega
theorem valL_lt (l : List UInt8) (h : ∀ c ∈ l, dgB c = true) : valL l < 10 ^ l.length := by
  induction l using snoc_ind with
  | h0 => simp [valL_nil]
  | hs l c ih =>
    have := ih (fun c hc => h c (by simp [hc]))
    have hc := dgB_iff.1 (h c (by simp))
    rw [valL_snoc, List.length_append, List.length_singleton, Nat.pow_succ]
    omega
theorem ofNat_val {k : Nat} (h : k < 10) : (UInt8.ofNat (48 + k)).toNat = 48 + k := by rw [UInt8.toNat_ofNat']; omega
theorem byte_back {c : UInt8} (h : dgB c = true) : UInt8.ofNat (48 + (c.toNat - 48)) = c := by
  have := dgB_iff.1 h
  apply UInt8.toNat_inj.1
  rw [ofNat_val (by omega)]
  omega
theorem dec_small {u : Nat} (h : u < 10) : Lib.decDigits u = [UInt8.ofNat (48 + u)] := Lib.decDigits_one h
theorem dec_big {u : Nat} (h : ¬ u < 10) : Lib.decDigits u = Lib.decDigits (u / 10) ++ [UInt8.ofNat (48 + u % 10)] := by rw [Lib.decDigits, dif_neg h]
theorem val_dec (u : Nat) : valL (Lib.decDigits u) = u := by
  induction u using Nat.strongRecOn with
  | _ u ih =>
    by_cases h : u < 10
    · rw [dec_small h]
      show 0 * 10 + ((UInt8.ofNat (48 + u)).toNat - 48) = u
      rw [ofNat_val h]; omega
    · rw [dec_big h, valL_snoc, ih (u / 10) (by omega), ofNat_val (by omega)]
      omega
theorem dec_dig (u : Nat) : ∀ c ∈ Lib.decDigits u, dgB c = true := by
  induction u using Nat.strongRecOn with
  | _ u ih =>
    intro c hc
    by_cases h : u < 10
    · rw [dec_small h, List.mem_singleton] at hc
      subst hc
      rw [dgB_iff, ofNat_val h]; omega
    · rw [dec_big h, List.mem_append, List.mem_singleton] at hc
      rcases hc with hc | rfl
      · exact ih (u / 10) (by omega) c hc
      · rw [dgB_iff, ofNat_val (by omega)]; omega
theorem dec_ne (u : Nat) : Lib.decDigits u ≠ [] := by
  intro h
  have := Lib.nDigits_pos u
  rw [← Lib.decDigits_length, h] at this
  simp at this
/-- No nought ahead, but for the number 0. -/
theorem dec_head (u : Nat) (h : 0 < u) : (Lib.decDigits u).head? ≠ some 48 := by
  induction u using Nat.strongRecOn with
  | _ u ih =>
    by_cases h1 : u < 10
    · rw [dec_small h1]
      simp only [List.head?_cons, ne_eq, Option.some.injEq]
      intro e
      have := congrArg UInt8.toNat e
      rw [ofNat_val h1] at this
      simp at this
      omega
    · have := ih (u / 10) (by omega) (by omega)
      rw [dec_big h1]
      obtain ⟨x, l, hx⟩ := List.exists_cons_of_ne_nil (dec_ne (u / 10))
      rw [hx] at this ⊢
      simpa using this
/-- A text of digits is a number's numeral, if no needless nought stands ahead. -/
theorem dec_val (l : List UInt8) (h : ∀ c ∈ l, dgB c = true) (h0 : l ≠ []) (h1 : 1 < l.length → l.head? ≠ some 48) : Lib.decDigits (valL l) = l := by
  induction l using snoc_ind with
  | h0 => exact absurd rfl h0
  | hs l c ih =>
    have hc := h c (by simp)
    have hb := dgB_iff.1 hc
    rw [valL_snoc]
    by_cases hl : l = []
    · subst hl
      rw [valL_nil, dec_small (by omega), Nat.zero_mul, Nat.zero_add, byte_back hc]
      rfl
    · have hh : l.head? ≠ some 48 := by
        have := h1 (by simp; exact List.length_pos_iff.2 hl)
        obtain ⟨x, t, rfl⟩ := List.exists_cons_of_ne_nil hl
        simpa using this
      have hi := ih (fun c hc => h c (by simp [hc])) hl (fun _ => hh)
      have hp : 0 < valL l := by
        apply Nat.pos_of_ne_zero
        intro hz
        rw [hz] at hi
        rw [← hi, dec_small (by omega)] at hh
        simp at hh
      rw [dec_big (by omega), show (valL l * 10 + (c.toNat - 48)) / 10 = valL l by omega, show (valL l * 10 + (c.toNat - 48)) % 10 = c.toNat - 48 by omega, hi, byte_back hc]
theorem dec_inj {a b : Nat} (h : Lib.decDigits a = Lib.decDigits b) : a = b := by rw [← val_dec a, ← val_dec b, h]
theorem dec_len_le (u k : Nat) (h : u < 10 ^ (k + 1)) : (Lib.decDigits u).length ≤ k + 1 := by
  induction k generalizing u with
  | zero => rw [dec_small (by simpa using h)]; simp
  | succ k ih =>
    by_cases h1 : u < 10
    · rw [dec_small h1]; simp
    · rw [dec_big h1, List.length_append]
      have := ih (u / 10) (by rw [Nat.pow_succ] at h; omega)
      simp; omega
theorem dec_len (u k : Nat) (h0 : 10 ^ k ≤ u) (h1 : u < 10 ^ (k + 1)) : (Lib.decDigits u).length = k + 1 := by
  rw [Lib.decDigits_length]; exact Lib.nDigits_unique k u h0 h1
/-- The value, held at a bound: as it is summed with min at each step. -/
def capL (M : Nat) (l : List UInt8) : Nat := l.foldl (fun n c => min (n * 10 + (c.toNat - 48)) M) 0
theorem capL_snoc (M : Nat) (l : List UInt8) (c : UInt8) : capL M (l ++ [c]) = min (capL M l * 10 + (c.toNat - 48)) M := by
  unfold capL; rw [List.foldl_append]; rfl
theorem capL_val (M : Nat) (l : List UInt8) : capL M l = min (valL l) M := by
  induction l using snoc_ind with
  | h0 => simp [capL, valL]
  | hs l c ih => rw [capL_snoc, valL_snoc, ih]; omega
end Go.Proofs.YtccjcdecpgigpaaDoor.Dec
