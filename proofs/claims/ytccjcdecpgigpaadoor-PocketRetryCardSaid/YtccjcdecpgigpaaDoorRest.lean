/- Plain: the rest of a text of digits by 97. -/
import Derived.Test.YtccjcdecpgigpaaDoorNum
import Derived.Test.YtccjcdecpgigpaaDoorChk
namespace Go.Proofs.YtccjcdecpgigpaaDoor.Rest
open Go.RowKit Go.Proofs.YtccjcdecpgigpaaDoor.Base Go.Proofs.YtccjcdecpgigpaaDoor.Num Go.Proofs.YtccjcdecpgigpaaDoor.Chk
set_option linter.unusedVariables false
set_option linter.unusedSimpArgs false
set_option maxRecDepth 20000

theorem numL_dig (raw : List UInt8) (most : Nat) : ∀ c ∈ numL raw most, digB c = true := by
  intro c hc
  unfold numL at hc
  obtain ⟨x, _, rfl⟩ := List.mem_map.1 hc
  have h := digOf_val x
  have hx := x.toNat_lt
  unfold digB
  simp
  omega
theorem numerals_list (raw : List UInt8) (most : Nat) : (numerals raw most).data.toList = if numL raw most = [] then [48] else numL raw most := by
  unfold numerals
  split
  · rfl
  · exact strOf_data _
theorem numerals_dig (raw : List UInt8) (most : Nat) : allDig (numerals raw most) = true := by
  unfold allDig
  rw [numerals_list]
  split
  · rfl
  · exact List.all_eq_true.2 (numL_dig raw most)
theorem numerals_size (raw : List UInt8) (most : Nat) (h : 0 < most) : 0 < (numerals raw most).size ∧ (numerals raw most).size ≤ most := by
  rw [← bytes_len, numerals_list]
  split
  · simp; omega
  · rename_i hn
    refine ⟨List.length_pos_iff.2 hn, ?_⟩
    unfold numL
    simp
    omega

theorem restL_append (a b : List UInt8) : restL (a ++ b) = (restL a * 10 ^ b.length + restL b) % 97 := by
  induction b using snoc_ind with
  | h0 =>
    have := restL_bound a
    simp [restL]
    exact (Int.emod_eq_of_lt (by simpa [restL] using this.1) (by simpa [restL] using this.2)).symm
  | hs b c ih =>
    rw [← List.append_assoc, restL_snoc, restL_snoc, ih, List.length_append]
    simp only [List.length_cons, List.length_nil, Nat.zero_add, Int.pow_succ]
    rw [← Int.mul_assoc]
    generalize restL a * 10 ^ b.length = p
    omega
theorem ten_pow {k : Nat} {x : Int} (h : (x * 10 ^ k) % 97 = 0) : x % 97 = 0 := by
  induction k with
  | zero => simpa using h
  | succ k ih =>
    apply ih
    rw [Int.pow_succ, ← Int.mul_assoc] at h
    generalize x * 10 ^ k = p at h ⊢
    omega
theorem digitsE_ok (s : ByteArray) (h0 : 0 < s.size) (h1 : s.size ≤ 200) (h : allDig s = true) : digitsE s = 0 := by
  unfold digitsE
  rw [if_neg (by omega), h]; rfl
theorem rest_one (c : UInt8) (h : 48 ≤ c.toNat ∧ c.toNat ≤ 57) : restL [c] = (c.toNat : Int) - 48 := by
  simp [restL]; omega
/-- Behind two different digits, the same rest of the text: another rest. -/
theorem rest_slip (a b : List UInt8) (c d : UInt8) (hc : 48 ≤ c.toNat ∧ c.toNat ≤ 57) (hd : 48 ≤ d.toNat ∧ d.toNat ≤ 57) (hne : c ≠ d) :
    restL (a ++ [c] ++ b) ≠ restL (a ++ [d] ++ b) := by
  intro h
  rw [restL_append (a ++ [c]), restL_append (a ++ [d]), restL_snoc, restL_snoc] at h
  have hx : (((restL a * 10 + ((c.toNat : Int) - 48)) % 97 - (restL a * 10 + ((d.toNat : Int) - 48)) % 97) * 10 ^ b.length) % 97 = 0 := by
    rw [Int.sub_mul]; omega
  have := ten_pow hx
  have hcd : c.toNat = d.toNat := by omega
  exact hne (UInt8.toNat_inj.1 hcd)

theorem slip_val (c : UInt8) (b : Int) (hc : 48 ≤ c.toNat ∧ c.toNat ≤ 57) (hb0 : 0 ≤ b) (hb1 : b < 9) : 0 ≤ slipD c b ∧ slipD c b ≤ 9 ∧ (UInt8.ofNat (48 + ((slipD c b).toNat : Int)).toNat).toNat = 48 + (slipD c b).toNat ∧ c ≠ UInt8.ofNat (48 + ((slipD c b).toNat : Int)).toNat := by
  have h0 : 0 ≤ slipD c b ∧ slipD c b ≤ 9 := by unfold slipD; omega
  have h1 : (UInt8.ofNat (48 + ((slipD c b).toNat : Int)).toNat).toNat = 48 + (slipD c b).toNat := by
    rw [UInt8.toNat_ofNat']; omega
  refine ⟨h0.1, h0.2, h1, fun he => ?_⟩
  have := congrArg UInt8.toNat he
  rw [h1] at this
  unfold slipD at this
  omega
theorem slip_list (s : ByteArray) (i : Nat) (d : Nat) : (slipped s i d).data.toList = s.data.toList.take i ++ [UInt8.ofNat (48 + (d : Int)).toNat] ++ s.data.toList.drop (i + 1) := by
  unfold slipped
  rw [bytes_append, bytes_append, bytes_extract, bytes_extract, one_list, List.take_of_length_le (l := s.data.toList) (i := s.size) (by simp)]
  rw [List.drop_zero]
theorem slip_size (s : ByteArray) (i : Nat) (d : Nat) (hi : i < s.size) : (slipped s i d).size = s.size := by
  have hl : s.data.toList.length = s.size := bytes_len s
  rw [← bytes_len, slip_list]
  simp
  omega
theorem slip_dig (s : ByteArray) (i : Nat) (d : Nat) (hs : allDig s = true) (hd : digB (UInt8.ofNat (48 + (d : Int)).toNat) = true) : allDig (slipped s i d) = true := by
  unfold allDig at hs ⊢
  rw [List.all_eq_true] at hs ⊢
  intro x hx
  rw [slip_list] at hx
  simp only [List.mem_append, List.mem_singleton] at hx
  rcases hx with (hx | rfl) | hx
  · exact hs x (List.mem_of_mem_take hx)
  · exact hd
  · exact hs x (List.mem_of_mem_drop hx)
theorem slip_plain (s : ByteArray) (h0 : 0 < s.size) (h1 : s.size ≤ 200) (hd : allDig s = true) (i : Nat) (hi : i < s.size) (b : Int) (hb0 : 0 ≤ b) (hb1 : b < 9) :
    digitsE (slipped s i (slipD (s[i]'hi) b).toNat) = 0 ∧ restL s.data.toList ≠ restL (slipped s i (slipD (s[i]'hi) b).toNat).data.toList := by
  obtain ⟨hc1, hc2⟩ := allDig_at s hd i hi
  obtain ⟨hD0, hD1, hv, hne⟩ := slip_val s[i] b ⟨hc1, hc2⟩ hb0 hb1
  refine ⟨digitsE_ok _ (by rw [slip_size s i _ hi]; omega) (by rw [slip_size s i _ hi]; omega) (slip_dig s i _ hd (by unfold digB; rw [hv]; simp; omega)), ?_⟩
  rw [slip_list]
  conv => lhs; rw [bytes_split s i hi]
  exact rest_slip _ _ _ _ ⟨hc1, hc2⟩ (by rw [hv]; omega) hne
end Go.Proofs.YtccjcdecpgigpaaDoor.Rest
