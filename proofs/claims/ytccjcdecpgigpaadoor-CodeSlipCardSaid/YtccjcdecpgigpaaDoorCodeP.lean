/- Plain: what a meter shows, in eighteen digits, and what is read of them. -/
import Derived.Test.YtccjcdecpgigpaaDoorDec
import Derived.Lib.ParseIntB
namespace Go.Proofs.YtccjcdecpgigpaaDoor.Code
open Go Go.Proofs.YtccjcdecpgigpaaDoor.Dec
set_option linter.unusedVariables false
theorem dec_len18 (v : Nat) (h : v < 1000000000000000000) : (Lib.decDigits v).length ≤ 18 := dec_len_le v 17 h
def zeros (k : Nat) : List UInt8 := List.replicate k 48
theorem zeros_val (k : Nat) (l : List UInt8) : valL (zeros k ++ l) = valL l := by
  have hz : valL (zeros k) = 0 := by
    unfold zeros
    induction k with
    | zero => rfl
    | succ k ih =>
      rw [List.replicate_succ', valL_snoc, ih]; rfl
  rw [valL_append, hz]; omega
def codeL (v : Nat) : List UInt8 := zeros (18 - (Lib.decDigits v).length) ++ Lib.decDigits v
theorem code_len (v : Nat) (h : v < 1000000000000000000) : (codeL v).length = 18 := by
  have := dec_len18 v h
  unfold codeL zeros
  rw [List.length_append, List.length_replicate]
  omega
theorem code_val (v : Nat) : valL (codeL v) = v := by unfold codeL; rw [zeros_val, val_dec]
theorem code_dig (v : Nat) : ∀ c ∈ codeL v, dgB c = true := by
  intro c hc
  unfold codeL zeros at hc
  rw [List.mem_append] at hc
  rcases hc with hc | hc
  · rw [List.eq_of_mem_replicate hc]; rfl
  · exact dec_dig v c hc
theorem parseM_val (l : List UInt8) : ∀ acc : Nat, (∀ c ∈ l, dgB c = true) → acc * 10 ^ l.length + valL l < 1000000000000000000 → Lib.parseUintM (2 ^ 64 - 1) acc l = .ok (acc * 10 ^ l.length + valL l) := by
  induction l with
  | nil => intro acc _ _; simp [Lib.parseUintM, valL]
  | cons c l ih =>
    intro acc hd hb
    have hc := dgB_iff.1 (hd c (by simp))
    have hv : valL (c :: l) = (c.toNat - 48) * 10 ^ l.length + valL l := by
      have := valL_append [c] l
      have e : valL [c] = c.toNat - 48 := by show 0 * 10 + (c.toNat - 48) = _; omega
      rw [e] at this
      exact this
    have hp : 1 ≤ 10 ^ l.length := Nat.one_le_pow _ _ (by decide)
    rw [List.length_cons, Nat.pow_succ, hv] at hb
    have hsum : acc * (10 ^ l.length * 10) + ((c.toNat - 48) * 10 ^ l.length + valL l) = (acc * 10 + (c.toNat - 48)) * 10 ^ l.length + valL l := by
      rw [Nat.add_mul, Nat.mul_comm (10 ^ l.length) 10, ← Nat.mul_assoc, Nat.add_assoc]
    rw [hsum] at hb
    have hle : acc * 10 + (c.toNat - 48) ≤ (acc * 10 + (c.toNat - 48)) * 10 ^ l.length := Nat.le_mul_of_pos_right _ hp
    unfold Lib.parseUintM
    rw [if_pos hc, if_neg (by omega), if_neg (by omega), ih _ (fun c hc => hd c (by simp [hc])) hb, List.length_cons, Nat.pow_succ, hv, hsum]
theorem parse_val (l : List UInt8) (h0 : l ≠ []) (hd : ∀ c ∈ l, dgB c = true) (hl : l.length ≤ 18) : Lib.parseIntB 64 l = .ok ((valL l : Nat) : Int) := by
  have hlt := valL_lt l hd
  have hp : 10 ^ l.length ≤ 10 ^ 18 := Nat.pow_le_pow_right (by decide) hl
  have hm := parseM_val l 0 hd (by rw [Nat.zero_mul, Nat.zero_add]; omega)
  rw [Nat.zero_mul, Nat.zero_add] at hm
  obtain ⟨c, r, rfl⟩ := List.exists_cons_of_ne_nil h0
  have hc := dgB_iff.1 (hd c (by simp))
  unfold Lib.parseIntB
  simp only
  rw [if_neg (by omega)]
  unfold Lib.parseUintB
  rw [if_neg (by simp), hm]
  simp only
  rw [if_neg (by omega), if_neg (by omega), if_neg (by omega)]
/-- The rest by 97. -/
def restN (l : List UInt8) : Int := l.foldl (fun n c => (n * 10 + ((c.toNat : Int) - 48)) % 97) 0
theorem rest_val (l : List UInt8) (hd : ∀ c ∈ l, dgB c = true) : restN l = ((valL l % 97 : Nat) : Int) := by
  induction l using snoc_ind with
  | h0 => rfl
  | hs l c ih =>
    have hc := dgB_iff.1 (hd c (by simp))
    have := ih (fun c hc => hd c (by simp [hc]))
    unfold restN at this ⊢
    rw [List.foldl_append, this, valL_snoc]
    simp only [List.foldl_cons, List.foldl_nil]
    omega
/-- What a meter shows, as a number. -/
def codeN (me cr hi : Nat) : Nat := ((cr * 1048576 + hi) * 50 + me) * 97
theorem codeN_lt (me cr hi : Nat) (h1 : me < 50) (h2 : cr ≤ 99999999) (h3 : hi ≤ 1048575) : codeN me cr hi < 1000000000000000000 := by unfold codeN; omega
theorem codeN_mod (me cr hi : Nat) : codeN me cr hi % 97 = 0 := by unfold codeN; omega
theorem codeN_back (me cr hi : Nat) (h1 : me < 50) (h3 : hi ≤ 1048575) : codeN me cr hi / 97 % 50 = me ∧ codeN me cr hi / 97 / 50 / 1048576 = cr ∧ codeN me cr hi / 97 / 50 % 1048576 = hi := by unfold codeN; omega
end Go.Proofs.YtccjcdecpgigpaaDoor.Code
