/- Plain: amounts of money as texts, shown and read. -/
import Derived.Test.YtfdgjaahmbjnpaaDoorDec
import Derived.Test.YtfdgjaahmbjnpaaDoorCut
namespace Go.Proofs.YtfdgjaahmbjnpaaDoor.Cts
open Go Go.Proofs.YtfdgjaahmbjnpaaDoor.Dec
set_option linter.unusedVariables false
def showN (q r : Nat) : List UInt8 := Lib.decDigits q ++ 46 :: (Lib.decDigits (100 + r)).drop 1
def showL (n : Int) : List UInt8 := (if n < 0 then [45] else []) ++ showN (n.natAbs / 100) (n.natAbs % 100)
/-- The number and the code behind a sign, a whole part, a part behind the point. -/
def readV (below : Bool) (w t : List UInt8) : Int × Int :=
  if w = [] ∨ t.length ≠ 2 ∨ (1 < w.length ∧ w.head? = some 48) then (0, 3)
  else if (w ++ t).all dgB = false then (0, 3)
  else if below = true ∧ capL 1000000000001 (w ++ t) = 0 then (0, 3)
  else if 1000000000000 < capL 1000000000001 (w ++ t) then (0, 2)
  else (if below then -(capL 1000000000001 (w ++ t) : Int) else (capL 1000000000001 (w ++ t) : Int), 0)
def belowB (s : List UInt8) : Bool := s.head? == some 45
def bodyL (s : List UInt8) : List UInt8 := if belowB s then s.drop 1 else s
def readL (s : List UInt8) : Int × Int :=
  if 20 < s.length then (0, 1)
  else if (cutL 46 (bodyL s)).2.2 = false then (0, 3)
  else readV (belowB s) (cutL 46 (bodyL s)).1 (cutL 46 (bodyL s)).2.1
theorem two (r : Nat) (h : r < 100) : (Lib.decDigits (100 + r)).drop 1 = [UInt8.ofNat (48 + r / 10), UInt8.ofNat (48 + r % 10)] := by
  rw [dec_big (by omega), dec_big (by omega), dec_small (by omega)]
  rw [show (100 + r) / 10 % 10 = r / 10 by omega, show (100 + r) % 10 = r % 10 by omega]
  rfl
theorem two_dig (r : Nat) (h : r < 100) : ∀ c ∈ (Lib.decDigits (100 + r)).drop 1, dgB c = true := fun c hc => dec_dig _ c (List.mem_of_mem_drop hc)
theorem val_two (r : Nat) (h : r < 100) : valL ((Lib.decDigits (100 + r)).drop 1) = r := by
  rw [two r h]
  show (0 * 10 + ((UInt8.ofNat (48 + r / 10)).toNat - 48)) * 10 + ((UInt8.ofNat (48 + r % 10)).toNat - 48) = r
  rw [ofNat_val (by omega), ofNat_val (by omega)]
  omega
theorem two_len (r : Nat) (h : r < 100) : ((Lib.decDigits (100 + r)).drop 1).length = 2 := by rw [two r h]; rfl
theorem dot_no {l : List UInt8} (h : ∀ c ∈ l, dgB c = true) : (46 : UInt8) ∉ l := by
  intro hm
  have := h _ hm
  revert this
  decide
theorem readV_bad (b : Bool) (w t : List UInt8) (h : (readV b w t).2 ≠ 0) : (readV b w t).1 = 0 := by
  unfold readV at *
  by_cases h1 : w = [] ∨ t.length ≠ 2 ∨ (1 < w.length ∧ w.head? = some 48)
  · rw [if_pos h1]
  rw [if_neg h1] at h ⊢
  by_cases h2 : (w ++ t).all dgB = false
  · rw [if_pos h2]
  rw [if_neg h2] at h ⊢
  by_cases h3 : b = true ∧ capL 1000000000001 (w ++ t) = 0
  · rw [if_pos h3]
  rw [if_neg h3] at h ⊢
  by_cases h4 : 1000000000000 < capL 1000000000001 (w ++ t)
  · rw [if_pos h4]
  rw [if_neg h4] at h
  exact absurd rfl h
theorem read_bad (s : List UInt8) (h : (readL s).2 ≠ 0) : (readL s).1 = 0 := by
  unfold readL at *
  by_cases h1 : 20 < s.length
  · rw [if_pos h1]
  rw [if_neg h1] at h ⊢
  by_cases h2 : (cutL 46 (bodyL s)).2.2 = false
  · rw [if_pos h2]
  rw [if_neg h2] at h ⊢
  exact readV_bad _ _ _ h
theorem readV_show (b : Bool) (q r : Nat) (hr : r < 100) (hm : q * 100 + r ≤ 1000000000000) (hb : b = true → 0 < q * 100 + r) :
    readV b (Lib.decDigits q) ((Lib.decDigits (100 + r)).drop 1) = (if b then -((q * 100 + r : Nat) : Int) else ((q * 100 + r : Nat) : Int), 0) := by
  have hv : valL (Lib.decDigits q ++ (Lib.decDigits (100 + r)).drop 1) = q * 100 + r := by
    rw [valL_append, val_dec, val_two r hr, two_len r hr]
  have hc : capL 1000000000001 (Lib.decDigits q ++ (Lib.decDigits (100 + r)).drop 1) = q * 100 + r := by rw [capL_val, hv]; omega
  have h1 : ¬ (Lib.decDigits q = [] ∨ ((Lib.decDigits (100 + r)).drop 1).length ≠ 2 ∨ (1 < (Lib.decDigits q).length ∧ (Lib.decDigits q).head? = some 48)) := by
    rintro (h | h | ⟨h, h'⟩)
    · exact dec_ne q h
    · exact h (two_len r hr)
    · by_cases hq : 0 < q
      · exact dec_head q hq h'
      · rw [dec_small (by omega)] at h; simp at h
  have h2 : (Lib.decDigits q ++ (Lib.decDigits (100 + r)).drop 1).all dgB = true := by
    rw [List.all_append, Bool.and_eq_true, List.all_eq_true, List.all_eq_true]
    exact ⟨dec_dig q, two_dig r hr⟩
  unfold readV
  rw [if_neg h1, h2, if_neg (by decide), hc, if_neg (by rintro ⟨h3, h4⟩; have := hb h3; omega), if_neg (by omega)]
theorem showN_len (q r : Nat) (hr : r < 100) (hm : q ≤ 10000000000) : (showN q r).length ≤ 14 := by
  unfold showN
  have := dec_len_le q 10 (by omega)
  rw [List.length_append, List.length_cons, two_len r hr]
  omega
theorem showL_len (n : Int) (h0 : -1000000000000 ≤ n) (h1 : n ≤ 1000000000000) : (showL n).length ≤ 15 := by
  unfold showL
  have := showN_len (n.natAbs / 100) (n.natAbs % 100) (by omega) (by omega)
  rw [List.length_append]
  split <;> simp <;> omega
theorem showN_head (q r : Nat) : (showN q r).head? ≠ some 45 := by
  unfold showN
  have hd := dec_dig q
  obtain ⟨x, t, hx⟩ := List.exists_cons_of_ne_nil (dec_ne q)
  rw [hx] at hd ⊢
  intro h
  simp at h
  have := hd x (by simp)
  rw [h] at this
  revert this
  decide
theorem show_read (n : Int) (h0 : -1000000000000 ≤ n) (h1 : n ≤ 1000000000000) : readL (showL n) = (n, 0) := by
  have hl := showL_len n h0 h1
  have hc := cutL_hit 46 (Lib.decDigits (n.natAbs / 100)) ((Lib.decDigits (100 + n.natAbs % 100)).drop 1) (dot_no (dec_dig _))
  have hdm : n.natAbs / 100 * 100 + n.natAbs % 100 = n.natAbs := by omega
  unfold readL
  rw [if_neg (by omega)]
  by_cases hn : n < 0
  · have hb : belowB (showL n) = true := by unfold belowB showL; rw [if_pos hn]; rfl
    have hB : bodyL (showL n) = showN (n.natAbs / 100) (n.natAbs % 100) := by unfold bodyL; rw [hb, if_pos rfl]; unfold showL; rw [if_pos hn]; rfl
    rw [hb, hB]
    unfold showN
    rw [hc, if_neg (by simp), readV_show true _ _ (by omega) (by omega) (by omega), hdm]
    simp only [if_true]
    congr 1
    omega
  · have hb : belowB (showL n) = false := by
      unfold belowB showL
      rw [if_neg hn, List.nil_append]
      exact beq_eq_false_iff_ne.mpr (showN_head _ _)
    have hB : bodyL (showL n) = showN (n.natAbs / 100) (n.natAbs % 100) := by unfold bodyL; rw [hb]; unfold showL; rw [if_neg hn]; rfl
    rw [hb, hB]
    unfold showN
    rw [hc, if_neg (by simp), readV_show false _ _ (by omega) (by omega) (by simp), hdm]
    simp only [Bool.false_eq_true, if_false]
    congr 1
    omega
theorem head_split (s : List UInt8) (h : belowB s = true) : s = 45 :: s.drop 1 := by
  unfold belowB at h
  cases s with
  | nil => simp at h
  | cons x t => simp at h; rw [h]; rfl
theorem read_show (s : List UInt8) (n : Int) (h : readL s = (n, 0)) : showL n = s ∧ -1000000000000 ≤ n ∧ n ≤ 1000000000000 := by
  unfold readL at h
  by_cases h1 : 20 < s.length
  · rw [if_pos h1] at h; cases h
  rw [if_neg h1] at h
  rcases cutL_spec 46 (bodyL s) with ⟨w, t, e1, e2, e3⟩ | ⟨_, e3⟩
  · rw [e3, if_neg (by simp)] at h
    simp only at h
    unfold readV at h
    split at h
    · cases h
    rename_i hf
    split at h
    · cases h
    rename_i hd
    split at h
    · cases h
    rename_i hz
    split at h
    · cases h
    rename_i hM
    simp only [not_or, not_and, Decidable.not_not] at hf
    obtain ⟨f1, f2, f3⟩ := hf
    have hall : ∀ c ∈ w ++ t, dgB c = true := by rw [Bool.not_eq_false, List.all_eq_true] at hd; exact hd
    have hw : ∀ c ∈ w, dgB c = true := fun c hc => hall c (by simp [hc])
    have ht : ∀ c ∈ t, dgB c = true := fun c hc => hall c (by simp [hc])
    have hdw := dec_val w hw f1 f3
    have htl := valL_lt t ht
    rw [f2] at htl
    have hv : valL (w ++ t) = valL w * 100 + valL t := by rw [valL_append, f2]
    have hcap := capL_val 1000000000001 (w ++ t)
    have hdt : (Lib.decDigits (100 + valL t)).drop 1 = t := by
      match t, f2 with
      | [a, b], _ =>
        have ha := dgB_iff.1 (ht a (by simp))
        have hb := dgB_iff.1 (ht b (by simp))
        have e : valL [a, b] = (a.toNat - 48) * 10 + (b.toNat - 48) := by show (0 * 10 + (a.toNat - 48)) * 10 + (b.toNat - 48) = _; omega
        rw [two _ (by omega), e, show ((a.toNat - 48) * 10 + (b.toNat - 48)) / 10 = a.toNat - 48 by omega, show ((a.toNat - 48) * 10 + (b.toNat - 48)) % 10 = b.toNat - 48 by omega, byte_back (ht a (by simp)), byte_back (ht b (by simp))]
    have hN : showN (valL w) (valL t) = bodyL s := by unfold showN; rw [hdw, hdt, e1]
    obtain ⟨V, hV⟩ : ∃ V, V = capL 1000000000001 (w ++ t) := ⟨_, rfl⟩
    rw [← hV] at h hz hM hcap
    have hVv : V = valL w * 100 + valL t := by omega
    by_cases hb : belowB s = true
    · rw [hb] at h hz
      simp only [if_true, Prod.mk.injEq, and_true] at h
      have hV0 : 0 < V := Nat.pos_of_ne_zero (fun e => hz ⟨rfl, e⟩)
      have hna : n.natAbs = V := by omega
      refine ⟨?_, by omega, by omega⟩
      unfold showL
      rw [if_pos (by omega), hna, show V / 100 = valL w by omega, show V % 100 = valL t by omega, hN]
      unfold bodyL
      rw [hb, if_pos rfl]
      exact (head_split s hb).symm
    · have hb' : belowB s = false := by simpa using hb
      rw [hb'] at h
      simp only [Bool.false_eq_true, if_false, Prod.mk.injEq, and_true] at h
      have hna : n.natAbs = V := by omega
      refine ⟨?_, by omega, by omega⟩
      unfold showL
      rw [if_neg (by omega), hna, show V / 100 = valL w by omega, show V % 100 = valL t by omega, hN]
      unfold bodyL
      rw [hb']
      rfl
  · rw [e3] at h
    simp at h
end Go.Proofs.YtfdgjaahmbjnpaaDoor.Cts
