/- Slots in plain words: which record they hold. -/
import Derived.Test.YtccjcdecpgigpaaDoorDiff
namespace Go.Proofs.YtccjcdecpgigpaaDoor.Cell
open Go.RowKit Go.Proofs.YtccjcdecpgigpaaDoor.Base
set_option linter.unusedVariables false
set_option linter.unusedSimpArgs false
set_option maxRecDepth 20000
/-! ### slots, in plain words: marks as whole numbers -/
/-- The mark of the slot s: 0 where it is not good. -/
def markN (c : List UInt32) (n s : Nat) : Nat := if 3 < (c.getD (s * (n + 1)) 0).toNat then 0 else (c.getD (s * (n + 1)) 0).toNat
theorem mark_le (c : List UInt32) (n s : Nat) : markN c n s ≤ 3 := by unfold markN; split <;> omega
/-- Which slot is the newer one; none: neither is good. -/
def newerN (a b : Nat) : Option Nat :=
  if a = 0 ∧ b = 0 then none else if a = 0 then some 1 else if b = 0 ∨ a = b ∨ b % 3 + 1 = a then some 0 else some 1
theorem newer_lt {a b s : Nat} (h : newerN a b = some s) : s < 2 := by
  unfold newerN at h
  repeat' split at h
  all_goals first | (cases h; done) | (simp at h; omega)
/-- The slots hold a record. -/
structure Holds (c : List UInt32) (n : Nat) (rec : List UInt32) : Prop where
  len : c.length = 2 * (n + 1)
  rlen : rec.length = n
  slot : ∃ s, newerN (markN c n 0) (markN c n 1) = some s ∧ ∀ i, i < n → c.getD (s * (n + 1) + 1 + i) 0 = rec.getD i 0
theorem applyL_append (c : List UInt32) (a b : List Wr) : applyL c (a ++ b) = applyL (applyL c a) b := by unfold applyL; rw [List.foldl_append]
theorem getD_set (c : List UInt32) (i j : Nat) (v : UInt32) (hi : i < c.length) : (c.set i v).getD j 0 = if i = j then v else c.getD j 0 := by
  simp only [List.getD_eq_getElem?_getD, List.getElem?_set]
  split
  · rename_i h
    subst h
    simp [hi]
  · rfl
/-- The words of a record, from a place on. -/
def recW (at_ : Nat) : List UInt32 → List Wr
  | [] => []
  | x :: xs => ⟨at_, x⟩ :: recW (at_ + 1) xs
theorem recW_len (xs : List UInt32) : ∀ a, (recW a xs).length = xs.length := by
  induction xs with
  | nil => intro a; rfl
  | cons x xs ih => intro a; simp [recW, ih]
theorem recW_snoc (xs : List UInt32) (x : UInt32) : ∀ a, recW a (xs ++ [x]) = recW a xs ++ [⟨a + xs.length, x⟩] := by
  induction xs with
  | nil => intro a; rfl
  | cons y xs ih => intro a; simp [recW, ih]; omega
theorem recW_in (xs : List UInt32) : ∀ a, ∀ w ∈ recW a xs, a ≤ w.at_ ∧ w.at_ < a + xs.length := by
  induction xs with
  | nil => intro a w h; simp [recW] at h
  | cons y xs ih =>
    intro a w h
    simp [recW] at h
    rcases h with rfl | h
    · simp
    · have := ih _ _ h
      simp
      omega
theorem recW_take (xs : List UInt32) (k : Nat) : ∀ a, (recW a xs).take k = recW a (xs.take k) := by
  induction xs generalizing k with
  | nil => intro a; simp [recW]
  | cons y xs ih =>
    intro a
    cases k with
    | zero => simp [recW]
    | succ k => simp [recW, ih]
theorem recW_get (xs : List UInt32) : ∀ (a : Nat) (c : List UInt32), a + xs.length ≤ c.length → ∀ j, (applyL c (recW a xs)).getD j 0 = if a ≤ j ∧ j < a + xs.length then xs.getD (j - a) 0 else c.getD j 0 := by
  induction xs with
  | nil => intro a c h j; simp [recW, applyL]; omega
  | cons y xs ih =>
    intro a c h j
    simp at h
    show (applyL (c.set a y) (recW (a + 1) xs)).getD j 0 = _
    rw [ih (a + 1) (c.set a y) (by simp; omega) j, getD_set _ _ _ _ (by omega)]
    by_cases h1 : a + 1 ≤ j ∧ j < a + 1 + xs.length
    · rw [if_pos h1, if_pos (by simp; omega)]
      have : j - a = (j - (a + 1)) + 1 := by omega
      rw [this]; simp [List.getD]
    · rw [if_neg h1]
      by_cases h2 : a = j
      · subst h2
        simp
      · rw [if_neg h2, if_neg (by simp; omega)]
/-- The writes of Store. -/
def storeW (n s : Nat) (m : Nat) (rec : List UInt32) : List Wr := ⟨(1 - s) * (n + 1), 0⟩ :: recW ((1 - s) * (n + 1) + 1) rec ++ [⟨(1 - s) * (n + 1), UInt32.ofNat (m % 3 + 1)⟩]
theorem storeW_len (n s m : Nat) (rec : List UInt32) : (storeW n s m rec).length = rec.length + 2 := by simp [storeW, recW_len]
theorem storeW_in (n s m : Nat) (hs : s < 2) (rec : List UInt32) (h : rec.length = n) : ∀ w ∈ storeW n s m rec, w.at_ < 2 * (n + 1) := by
  intro w hw
  have hb : (1 - s) * (n + 1) ≤ n + 1 := by
    rcases (by omega : s = 0 ∨ s = 1) with rfl | rfl <;> simp
  simp [storeW] at hw
  rcases hw with rfl | hw | rfl
  · simp; omega
  · have := recW_in _ _ _ hw
    omega
  · simp; omega
theorem mark_of {c d : List UInt32} {n s : Nat} (h : c.getD (s * (n + 1)) 0 = d.getD (s * (n + 1)) 0) : markN c n s = markN d n s := by unfold markN; rw [h]
theorem ofNat_mark (m : Nat) : (UInt32.ofNat (m % 3 + 1)).toNat = m % 3 + 1 := by
  rw [UInt32.toNat_ofNat']; omega
/-- The whole record. -/
theorem store_all {c old rec : List UInt32} {n s : Nat} (h : Holds c n old) (hs : newerN (markN c n 0) (markN c n 1) = some s) (hr : rec.length = n) : Holds (applyL c (storeW n s (markN c n s) rec)) n rec := by
  have hl := h.len
  have hs2 := newer_lt hs
  have m0 := mark_le c n 0
  have m1 := mark_le c n 1
  refine ⟨by rw [applyL_len]; exact hl, hr, 1 - s, ?_, ?_⟩
  all_goals
    have hget : ∀ j, (applyL c (storeW n s (markN c n s) rec)).getD j 0 = if (1 - s) * (n + 1) = j then UInt32.ofNat (markN c n s % 3 + 1) else if (1 - s) * (n + 1) + 1 ≤ j ∧ j < (1 - s) * (n + 1) + 1 + rec.length then rec.getD (j - ((1 - s) * (n + 1) + 1)) 0 else c.getD j 0 := by
      intro j
      have hb : (1 - s) * (n + 1) ≤ n + 1 := by
        rcases (by omega : s = 0 ∨ s = 1) with rfl | rfl <;> simp
      show (applyL c ((⟨(1 - s) * (n + 1), 0⟩ :: recW ((1 - s) * (n + 1) + 1) rec) ++ [_])).getD j 0 = _
      rw [applyL_snoc]
      show ((applyL (c.set ((1 - s) * (n + 1)) 0) (recW ((1 - s) * (n + 1) + 1) rec)).set ((1 - s) * (n + 1)) (UInt32.ofNat (markN c n s % 3 + 1))).getD j 0 = _
      rw [getD_set _ _ _ _ (by rw [applyL_len]; simp; omega)]
      split
      · rfl
      · rename_i h1
        rw [recW_get _ _ _ (by simp; omega), getD_set _ _ _ _ (by omega), if_neg h1]
  · rcases (by omega : s = 0 ∨ s = 1) with rfl | rfl
    · generalize applyL c (storeW n 0 (markN c n 0) rec) = d at *
      have e0 : markN d n 0 = markN c n 0 := by
        apply mark_of
        rw [hget]
        simp
      have e1 : markN d n 1 = markN c n 0 % 3 + 1 := by
        show (if 3 < (d.getD (1 * (n + 1)) 0).toNat then 0 else (d.getD (1 * (n + 1)) 0).toNat) = _
        have hx : d.getD (1 * (n + 1)) 0 = UInt32.ofNat (markN c n 0 % 3 + 1) := by rw [hget, if_pos (by simp)]
        rw [hx, ofNat_mark, if_neg (by omega)]
      rw [e0, e1]
      generalize markN c n 0 = a at *
      generalize markN c n 1 = b at *
      have ha : a ≠ 0 := by
        intro ha
        subst ha
        unfold newerN at hs
        by_cases hb : b = 0 <;> simp [hb] at hs
      unfold newerN
      rw [if_neg (by omega), if_neg ha, if_neg (by omega)]
    · generalize applyL c (storeW n 1 (markN c n 1) rec) = d at *
      have e0 : markN d n 0 = markN c n 1 % 3 + 1 := by
        show (if 3 < (d.getD (0 * (n + 1)) 0).toNat then 0 else (d.getD (0 * (n + 1)) 0).toNat) = _
        have hx : d.getD (0 * (n + 1)) 0 = UInt32.ofNat (markN c n 1 % 3 + 1) := by rw [hget, if_pos (by simp)]
        rw [hx, ofNat_mark, if_neg (by omega)]
      have e1 : markN d n 1 = markN c n 1 := by
        apply mark_of
        rw [hget]
        rw [if_neg (by simp), if_neg (by simp; omega)]
      rw [e0, e1]
      generalize markN c n 0 = a at *
      generalize markN c n 1 = b at *
      unfold newerN
      rw [if_neg (by omega), if_neg (by omega), if_pos (by omega)]
  · intro i hi
    have hb : (1 - s) * (n + 1) ≤ n + 1 := by
      rcases (by omega : s = 0 ∨ s = 1) with rfl | rfl <;> simp
    rw [hget, if_neg (by omega), if_pos (by omega)]
    congr 1
    omega
/-- Not all of it: as it was. -/
theorem store_cut {c old rec : List UInt32} {n s k : Nat} (h : Holds c n old) (hs : newerN (markN c n 0) (markN c n 1) = some s) (hr : rec.length = n) (hk : k < n + 2) : Holds (applyL c ((storeW n s (markN c n s) rec).take k)) n old ∧ newerN (markN (applyL c ((storeW n s (markN c n s) rec).take k)) n 0) (markN (applyL c ((storeW n s (markN c n s) rec).take k)) n 1) = some s := by
  have hl := h.len
  have hs2 := newer_lt hs
  obtain ⟨s', hs', hrec⟩ := h.slot
  have hss : s' = s := by rw [hs] at hs'; cases hs'; rfl
  subst hss
  have hnew : newerN (markN (applyL c ((storeW n s' (markN c n s') rec).take k)) n 0) (markN (applyL c ((storeW n s' (markN c n s') rec).take k)) n 1) = some s' ∧ ∀ i, i < n → (applyL c ((storeW n s' (markN c n s') rec).take k)).getD (s' * (n + 1) + 1 + i) 0 = c.getD (s' * (n + 1) + 1 + i) 0 := by
    cases k with
    | zero => exact ⟨hs, fun i _ => rfl⟩
    | succ k =>
      have hb : (1 - s') * (n + 1) ≤ n + 1 := by
        rcases (by omega : s' = 0 ∨ s' = 1) with rfl | rfl <;> simp
      have ht : (storeW n s' (markN c n s') rec).take (k + 1) = ⟨(1 - s') * (n + 1), 0⟩ :: recW ((1 - s') * (n + 1) + 1) (rec.take k) := by
        unfold storeW
        rw [List.cons_append, List.take_succ_cons, List.take_append_of_le_length (by rw [recW_len]; omega), recW_take]
      have hget : ∀ j, (applyL c ((storeW n s' (markN c n s') rec).take (k + 1))).getD j 0 = if (1 - s') * (n + 1) + 1 ≤ j ∧ j < (1 - s') * (n + 1) + 1 + (rec.take k).length then (rec.take k).getD (j - ((1 - s') * (n + 1) + 1)) 0 else if (1 - s') * (n + 1) = j then 0 else c.getD j 0 := by
        intro j
        rw [ht]
        show (applyL (c.set ((1 - s') * (n + 1)) 0) (recW ((1 - s') * (n + 1) + 1) (rec.take k))).getD j 0 = _
        rw [recW_get _ _ _ (by simp; omega), getD_set _ _ _ _ (by omega)]
      have hlt : (rec.take k).length ≤ n := by simp; omega
      generalize applyL c ((storeW n s' (markN c n s') rec).take (k + 1)) = d at *
      rcases (by omega : s' = 0 ∨ s' = 1) with rfl | rfl
      · constructor
        · have e0 : markN d n 0 = markN c n 0 := by
            apply mark_of
            rw [hget]
            simp
          have e1 : markN d n 1 = 0 := by
            show (if 3 < (d.getD (1 * (n + 1)) 0).toNat then 0 else (d.getD (1 * (n + 1)) 0).toNat) = _
            have hx : d.getD (1 * (n + 1)) 0 = 0 := by rw [hget, if_neg (by omega), if_pos (by omega)]
            rw [hx]
            rfl
          rw [e0, e1]
          generalize markN c n 0 = a at *
          generalize markN c n 1 = b at *
          have ha : a ≠ 0 := by
            intro ha
            subst ha
            unfold newerN at hs
            by_cases hb : b = 0 <;> simp [hb] at hs
          unfold newerN
          rw [if_neg (by omega), if_neg ha, if_pos (by omega)]
        · intro i hi
          rw [hget, if_neg (by omega), if_neg (by omega)]
      · constructor
        · have e1 : markN d n 1 = markN c n 1 := by
            apply mark_of
            rw [hget, if_neg (by simp; omega), if_neg (by simp)]
          have e0 : markN d n 0 = 0 := by
            show (if 3 < (d.getD (0 * (n + 1)) 0).toNat then 0 else (d.getD (0 * (n + 1)) 0).toNat) = _
            have hx : d.getD (0 * (n + 1)) 0 = 0 := by rw [hget, if_neg (by omega), if_pos (by omega)]
            rw [hx]
            rfl
          rw [e0, e1]
          generalize markN c n 0 = a at *
          generalize markN c n 1 = b at *
          have hb : b ≠ 0 := by
            intro hb
            subst hb
            unfold newerN at hs
            by_cases ha : a = 0 <;> simp [ha] at hs
          unfold newerN
          rw [if_neg (by omega), if_pos rfl]
        · intro i hi
          rw [hget, if_neg (by omega), if_neg (by omega)]
  exact ⟨⟨by rw [applyL_len]; exact hl, h.rlen, s', hnew.1, fun i hi => (hnew.2 i hi).trans (hrec i hi)⟩, hnew.1⟩
/-- Fresh slots. -/
def freshL (n : Nat) : List UInt32 := 1 :: List.replicate (2 * n + 1) 0
theorem fresh_get (n j : Nat) : (freshL n).getD j 0 = if j = 0 then 1 else 0 := by
  cases j with
  | zero => rfl
  | succ j =>
    simp [freshL, List.getD, List.getElem?_replicate]
    split <;> rfl
theorem fresh_holds (n : Nat) : Holds (freshL n) n (List.replicate n 0) := by
  refine ⟨by simp [freshL]; omega, by simp, 0, ?_, ?_⟩
  · have e0 : markN (freshL n) n 0 = 1 := by
      have hx : (freshL n).getD (0 * (n + 1)) 0 = 1 := by rw [fresh_get, if_pos (by simp)]
      unfold markN
      rw [hx]
      rfl
    have e1 : markN (freshL n) n 1 = 0 := by
      have hx : (freshL n).getD (1 * (n + 1)) 0 = 0 := by rw [fresh_get, if_neg (by omega)]
      unfold markN
      rw [hx]
      rfl
    rw [e0, e1]
    rfl
  · intro i hi
    rw [fresh_get, if_neg (by omega)]
    simp [List.getD, List.getElem?_replicate, hi]
/-- What Load gives. -/
def loadL (c : List UInt32) (n s : Nat) : List UInt32 := (c.drop (s * (n + 1) + 1)).take n
theorem load_holds {c rec : List UInt32} {n s : Nat} (h : Holds c n rec) (hs : newerN (markN c n 0) (markN c n 1) = some s) : loadL c n s = rec := by
  have hl := h.len
  have hs2 := newer_lt hs
  obtain ⟨s', hs', hrec⟩ := h.slot
  have hss : s' = s := by rw [hs] at hs'; cases hs'; rfl
  subst hss
  have hb : s' * (n + 1) ≤ n + 1 := by
    rcases (by omega : s' = 0 ∨ s' = 1) with rfl | rfl <;> simp
  apply List.ext_getElem
  · simp [loadL, h.rlen]; omega
  · intro i h1 h2
    have hi : i < n := by rw [h.rlen] at h2; exact h2
    have := hrec i hi
    rw [getD_at _ _ (by omega), getD_at _ _ (by omega)] at this
    simp only [loadL, List.getElem_take, List.getElem_drop]
    exact this
end Go.Proofs.YtccjcdecpgigpaaDoor.Cell
