/- Plain: the rest of a text of digits by 97. -/
import Derived.Test.YtdomipmfghnfaaaNum
import Derived.Test.YtdomipmfghnfaaaChk
namespace Go.Proofs.Ytdomipmfghnfaaa.Rest
open Go.RowKit Go.Proofs.Ytdomipmfghnfaaa.Base Go.Proofs.Ytdomipmfghnfaaa.Num Go.Proofs.Ytdomipmfghnfaaa.Chk
set_option linter.unusedVariables false
set_option linter.unusedSimpArgs false

theorem numL_dig (raw : List UInt8) (most : Nat) : ∀ c ∈ numL raw most, digB c = true := by
  intro c hc
  unfold numL at hc
  obtain ⟨x, _, rfl⟩ := List.mem_map.1 hc
  have h := digOf_val x
  have hx := x.toNat_lt
  unfold digB
  simp
  omega
theorem numerals_list (raw : List UInt8) (most : Nat) : (numerals raw most).data.toList = if numL raw most = [] then [48] else numL raw most := by
  unfold numerals
  split
  · rfl
  · exact strOf_data _
theorem numerals_dig (raw : List UInt8) (most : Nat) : allDig (numerals raw most) = true := by
  unfold allDig
  rw [numerals_list]
  split
  · rfl
  · exact List.all_eq_true.2 (numL_dig raw most)
theorem numerals_size (raw : List UInt8) (most : Nat) (h : 0 < most) : 0 < (numerals raw most).size ∧ (numerals raw most).size ≤ most := by
  rw [← bytes_len, numerals_list]
  split
  · simp; omega
  · rename_i hn
    refine ⟨List.length_pos_iff.2 hn, ?_⟩
    unfold numL
    simp
    omega

theorem restL_append (a b : List UInt8) : restL (a ++ b) = (restL a * 10 ^ b.length + restL b) % 97 := by
  induction b using snoc_ind with
  | h0 =>
    have := restL_bound a
    simp [restL]
    exact (Int.emod_eq_of_lt (by simpa [restL] using this.1) (by simpa [restL] using this.2)).symm
  | hs b c ih =>
    rw [← List.append_assoc, restL_snoc, restL_snoc, ih, List.length_append]
    simp only [List.length_cons, List.length_nil, Nat.zero_add, Int.pow_succ]
    rw [← Int.mul_assoc]
    generalize restL a * 10 ^ b.length = p
    omega
theorem ten_pow {k : Nat} {x : Int} (h : (x * 10 ^ k) % 97 = 0) : x % 97 = 0 := by
  induction k with
  | zero => simpa using h
  | succ k ih =>
    apply ih
    rw [Int.pow_succ, ← Int.mul_assoc] at h
    generalize x * 10 ^ k = p at h ⊢
    omega
theorem digitsE_ok (s : ByteArray) (h0 : 0 < s.size) (h1 : s.size ≤ 200) (h : allDig s = true) : digitsE s = 0 := by
  unfold digitsE
  rw [if_neg (by omega), h]; rfl
theorem rest_one (c : UInt8) (h : 48 ≤ c.toNat ∧ c.toNat ≤ 57) : restL [c] = (c.toNat : Int) - 48 := by
  simp [restL]; omega
/-- Behind two different digits, the same rest of the text: another rest. -/
theorem rest_slip (a b : List UInt8) (c d : UInt8) (hc : 48 ≤ c.toNat ∧ c.toNat ≤ 57) (hd : 48 ≤ d.toNat ∧ d.toNat ≤ 57) (hne : c ≠ d) :
    restL (a ++ [c] ++ b) ≠ restL (a ++ [d] ++ b) := by
  intro h
  rw [restL_append (a ++ [c]), restL_append (a ++ [d]), restL_snoc, restL_snoc] at h
  have hx : (((restL a * 10 + ((c.toNat : Int) - 48)) % 97 - (restL a * 10 + ((d.toNat : Int) - 48)) % 97) * 10 ^ b.length) % 97 = 0 := by
    rw [Int.sub_mul]; omega
  have := ten_pow hx
  have hcd : c.toNat = d.toNat := by omega
  exact hne (UInt8.toNat_inj.1 hcd)
end Go.Proofs.Ytdomipmfghnfaaa.Rest
