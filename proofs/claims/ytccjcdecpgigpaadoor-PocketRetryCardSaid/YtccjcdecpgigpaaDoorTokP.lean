/- Plain: tokens and their twenty digits. -/
import Derived.Test.YtccjcdecpgigpaaDoorTok
import Derived.Test.YtccjcdecpgigpaaDoorDig
namespace Go.Proofs.YtccjcdecpgigpaaDoor.Tok
open Go.RowKit Go.Proofs.YtccjcdecpgigpaaDoor.Base Go.Proofs.YtccjcdecpgigpaaDoor.Dig
set_option linter.unusedVariables false
set_option linter.unusedSimpArgs false
set_option maxRecDepth 20000
/-- The number of a token. -/
def tokN (t : Tk) : Nat := t.tag.toNat + t.am.toNat * 65536 + t.id.toNat * 137438953472 + t.cl.toNat * 144115188075855872
/-- What a number says. -/
def tokOf (q : Nat) : Tk := ⟨((q / 144115188075855872 % 4 : Nat) : Int), ((q / 137438953472 % 1048576 : Nat) : Int), ((q / 65536 % 2097152 : Nat) : Int), ((q % 65536 : Nat) : Int)⟩
theorem good_lim {t : Tk} (h : faultI t = 0) : (0 ≤ t.cl ∧ t.cl ≤ 3) ∧ (1 ≤ t.id ∧ t.id ≤ 1048575) ∧ (0 ≤ t.am ∧ t.am ≤ 2097151) ∧ (0 ≤ t.tag ∧ t.tag ≤ 65535) := by
  obtain ⟨hc, ⟨i0, i1⟩, ⟨a0, a1⟩, g0, g1⟩ := fault_ok h
  have l0 : 0 ≤ amLo t.cl := by unfold amLo; split <;> omega
  have l1 : amHi t.cl ≤ 2097151 := by unfold amHi; split <;> (try split) <;> omega
  exact ⟨hc, ⟨i0, i1⟩, ⟨by omega, by omega⟩, g0, g1⟩
theorem tokN_lt {t : Tk} (h : faultI t = 0) : tokN t < 576460752303423488 := by
  obtain ⟨⟨_, _⟩, ⟨_, _⟩, ⟨_, _⟩, _, _⟩ := good_lim h
  unfold tokN
  omega
theorem tokOf_tokN {t : Tk} (h : faultI t = 0) : tokOf (tokN t) = t := by
  obtain ⟨⟨_, _⟩, ⟨_, _⟩, ⟨_, _⟩, _, _⟩ := good_lim h
  obtain ⟨cl, id, am, tag⟩ := t
  simp only at *
  unfold tokOf tokN
  simp only [Tk.mk.injEq]
  refine ⟨?_, ?_, ?_, ?_⟩ <;> omega
theorem tokN_tokOf (q : Nat) (h : q < 576460752303423488) : tokN (tokOf q) = q := by
  unfold tokOf tokN
  simp only [Int.toNat_natCast]
  omega
theorem tokN_inj {a b : Tk} (ha : faultI a = 0) (hb : faultI b = 0) (h : tokN a = tokN b) : a = b := by rw [← tokOf_tokN ha, ← tokOf_tokN hb, h]
/-- Twenty digits. -/
def fmtL (n : Nat) : List UInt8 := List.replicate (20 - (decS n).length) 48 ++ decS n
theorem valL_zeros (k : Nat) (l : List UInt8) : valL (List.replicate k 48 ++ l) = valL l := by
  induction k with
  | zero => rfl
  | succ k ih =>
    rw [List.replicate_succ, List.cons_append]
    show List.foldl _ (0 * 10 + ((48 : UInt8).toNat - 48)) _ = _
    rw [show 0 * 10 + ((48 : UInt8).toNat - 48) = 0 from rfl]
    exact ih
theorem fmt_len (n : Nat) (h : n < 100000000000000000000) : (fmtL n).length = 20 := by
  unfold fmtL
  have := decS_len 19 n (by omega)
  simp
  omega
theorem fmt_val (n : Nat) : valL (fmtL n) = n := by
  unfold fmtL
  rw [valL_zeros, val_decS]
theorem fmt_dig (n : Nat) : ∀ c ∈ fmtL n, isDig c = true := by
  intro c hc
  unfold fmtL at hc
  rcases List.mem_append.1 hc with h | h
  · rw [List.eq_of_mem_replicate h]
    decide
  · exact decS_digits n c h
theorem valL_cons (c : UInt8) (l : List UInt8) : valL (c :: l) = (c.toNat - 48) * 10 ^ l.length + valL l := by
  induction l using snoc_ind with
  | h0 => simp [valL]
  | hs m d ih =>
    rw [← List.cons_append, valL_snoc, ih, valL_snoc, List.length_append]
    simp only [List.length_cons, List.length_nil, Nat.zero_add, Nat.pow_succ]
    rw [Nat.add_mul, Nat.mul_assoc]
    omega
theorem valL_lt : ∀ l : List UInt8, (∀ c ∈ l, isDig c = true) → valL l < 10 ^ l.length
  | [], _ => by simp [valL]
  | c :: l, h => by
    have h1 := valL_lt l (fun d hd => h d (List.mem_cons_of_mem _ hd))
    have h2 := h c List.mem_cons_self
    unfold isDig at h2
    simp only [Bool.and_eq_true, decide_eq_true_eq] at h2
    rw [valL_cons, List.length_cons, Nat.pow_succ]
    have h3 : (c.toNat - 48) * 10 ^ l.length ≤ 9 * 10 ^ l.length := Nat.mul_le_mul_right _ (by omega)
    omega
theorem valL_inj : ∀ a b : List UInt8, a.length = b.length → (∀ c ∈ a, isDig c = true) → (∀ c ∈ b, isDig c = true) → valL a = valL b → a = b
  | [], [], _, _, _, _ => rfl
  | c :: a, d :: b, hl, ha, hb, hv => by
    simp only [List.length_cons, Nat.add_right_cancel_iff] at hl
    have a1 := valL_lt a (fun d hd => ha d (List.mem_cons_of_mem _ hd))
    have b1 := valL_lt b (fun d hd => hb d (List.mem_cons_of_mem _ hd))
    have c1 := ha c List.mem_cons_self
    have d1 := hb d List.mem_cons_self
    unfold isDig at c1 d1
    simp only [Bool.and_eq_true, decide_eq_true_eq] at c1 d1
    rw [valL_cons, valL_cons, hl] at hv
    rw [hl] at a1
    have hp : 0 < 10 ^ b.length := Nat.pow_pos (by decide)
    have e1 : c.toNat - 48 = d.toNat - 48 := by
      have := congrArg (· / 10 ^ b.length) hv
      rw [Nat.mul_comm, Nat.mul_add_div hp, Nat.mul_comm (d.toNat - 48), Nat.mul_add_div hp, Nat.div_eq_of_lt a1, Nat.div_eq_of_lt b1] at this
      omega
    have e2 : c = d := UInt8.toNat_inj.1 (by omega)
    rw [e1] at hv
    have e3 := valL_inj a b hl (fun d hd => ha d (List.mem_cons_of_mem _ hd)) (fun c hc => hb c (List.mem_cons_of_mem _ hc)) (by omega)
    rw [e2, e3]
  | [], d :: b, hl, _, _, _ => by simp at hl
  | c :: a, [], hl, _, _, _ => by simp at hl
/-- What parsing says: the code, and the token where it is 0. -/
def parseE (l : List UInt8) : Int :=
  if l.length ≠ 20 then 6 else if ¬ (∀ c ∈ l, isDig c = true) then 7 else if 73786976294838206464 ≤ valL l then 2 else if valL l % 97 ≠ 0 then 8
  else if valL l / 97 / 576460752303423488 ≠ 0 ∨ faultI (tokOf (valL l / 97)) ≠ 0 then 2 else 0
def parseT (l : List UInt8) : Tk := if parseE l = 0 then tokOf (valL l / 97) else ⟨0, 0, 0, 0⟩
theorem parse_fmt {t : Tk} (h : faultI t = 0) : parseE (fmtL (97 * tokN t)) = 0 ∧ parseT (fmtL (97 * tokN t)) = t := by
  have hlt := tokN_lt h
  have hl := fmt_len (97 * tokN t) (by omega)
  have hv := fmt_val (97 * tokN t)
  have hd := fmt_dig (97 * tokN t)
  have hq : 97 * tokN t / 97 = tokN t := by omega
  have e : parseE (fmtL (97 * tokN t)) = 0 := by
    unfold parseE
    rw [if_neg (by omega), if_neg (by simpa using hd), hv, if_neg (by omega), if_neg (by omega), hq, tokOf_tokN h, if_neg]
    rintro (h1 | h1)
    · omega
    · exact h1 h
  refine ⟨e, ?_⟩
  unfold parseT
  rw [if_pos e, hv, hq, tokOf_tokN h]
theorem parse_ok {l : List UInt8} (h : parseE l = 0) : l.length = 20 ∧ (∀ c ∈ l, isDig c = true) ∧ valL l % 97 = 0 ∧ valL l / 97 < 576460752303423488 ∧ faultI (tokOf (valL l / 97)) = 0 := by
  unfold parseE at h
  split at h
  · cases h
  · rename_i h1
    split at h
    · cases h
    · rename_i h2
      split at h
      · cases h
      · split at h
        · cases h
        · rename_i h3
          split at h
          · cases h
          · rename_i h4
            simp only [ne_eq, not_or, Decidable.not_not] at h1 h2 h3 h4
            refine ⟨h1, h2, h3, by omega, h4.2⟩
theorem fmt_parse {l : List UInt8} (h : parseE l = 0) : faultI (parseT l) = 0 ∧ fmtL (97 * tokN (parseT l)) = l := by
  obtain ⟨h1, h2, h3, h4, h5⟩ := parse_ok h
  unfold parseT
  rw [if_pos h]
  refine ⟨h5, ?_⟩
  rw [tokN_tokOf _ h4]
  refine valL_inj _ _ (by rw [fmt_len _ (by omega), h1]) (fmt_dig _) h2 (by rw [fmt_val]; omega)
theorem parse_slip {l : List UInt8} (h1 : l.length = 20) (h2 : ∀ c ∈ l, isDig c = true) (h3 : valL l % 97 ≠ 0) : parseE l = 8 ∨ parseE l = 2 := by
  unfold parseE
  rw [if_neg (by simpa using h1), if_neg (by simpa using h2)]
  split
  · exact .inr rfl
  · exact .inl rfl
end Go.Proofs.YtccjcdecpgigpaaDoor.Tok
