/- Records on words, one behind the other, in plain words. -/
import Derived.Test.YtjlihpbnhojdgaaSlotP
namespace Go.Proofs.Ytjlihpbnhojdgaa.Cell
open Go.RowKit Go.Proofs.Ytjlihpbnhojdgaa.Base
set_option linter.unusedVariables false
set_option linter.unusedSimpArgs false
set_option maxRecDepth 20000
/-! ### records one behind the other, in plain words -/
def encL (l : List (List UInt32)) : List UInt32 := l.flatMap fun r => UInt32.ofNat r.length :: r
theorem encL_snoc (l : List (List UInt32)) (r : List UInt32) : encL (l ++ [r]) = encL l ++ (UInt32.ofNat r.length :: r) := by simp [encL]
/-- The words hold records. -/
structure Tape (c : List UInt32) (l : List (List UInt32)) : Prop where
  recs : ∀ r ∈ l, 1 ≤ r.length ∧ r.length ≤ 64
  fit : (encL l).length ≤ c.length
  cells : ∀ j, j < (encL l).length → c.getD j 0 = (encL l).getD j 0
  stop : c.getD (encL l).length 0 = 0
theorem applyL_other (ws : List Wr) (j : Nat) : ∀ c, (∀ w ∈ ws, w.at_ ≠ j) → (applyL c ws).getD j 0 = c.getD j 0 := by
  induction ws with
  | nil => intro c h; rfl
  | cons x ws ih =>
    intro c h
    show (applyL (c.set x.at_ x.word) ws).getD j 0 = _
    rw [ih _ (fun w hw => h w (by simp [hw]))]
    have hx := h x (by simp)
    simp [List.getD, List.getElem?_set, hx]
/-- The writes of Append. -/
def appendW (len at_ : Nat) (r : List UInt32) : List Wr := recW (at_ + 1) r ++ (if at_ + 1 + r.length < len then [⟨at_ + 1 + r.length, 0⟩] else []) ++ [⟨at_, UInt32.ofNat r.length⟩]
theorem appendW_len (len at_ : Nat) (r : List UInt32) : r.length + 1 ≤ (appendW len at_ r).length ∧ (appendW len at_ r).length ≤ r.length + 2 := by
  unfold appendW
  split <;> simp [recW_len]
theorem appendW_in (len at_ : Nat) (r : List UInt32) (h : at_ + 1 + r.length ≤ len) : ∀ w ∈ appendW len at_ r, at_ ≤ w.at_ ∧ w.at_ < len := by
  intro w hw
  unfold appendW at hw
  rcases List.mem_append.1 hw with hw | hw
  · rcases List.mem_append.1 hw with hw | hw
    · have := recW_in _ _ _ hw
      omega
    · split at hw
      · simp at hw
        subst hw
        simp
        omega
      · simp at hw
  · simp at hw
    subst hw
    simp
    omega
/-- Not all the writes: as it was. -/
theorem append_cut {c : List UInt32} {l : List (List UInt32)} (h : Tape c l) (r : List UInt32) (k : Nat) (hk : k < (appendW c.length (encL l).length r).length) :
    Tape (applyL c ((appendW c.length (encL l).length r).take k)) l := by
  have hne : ∀ j, j ≤ (encL l).length → (applyL c ((appendW c.length (encL l).length r).take k)).getD j 0 = c.getD j 0 := by
    intro j hj
    apply applyL_other
    intro w hw
    unfold appendW at hw hk
    rw [List.take_append_of_le_length (by simp at hk ⊢; omega)] at hw
    have hw := List.mem_of_mem_take hw
    rcases List.mem_append.1 hw with hw | hw
    · have := recW_in _ _ _ hw
      omega
    · split at hw
      · simp at hw
        subst hw
        simp
        omega
      · simp at hw
  refine ⟨h.recs, by rw [applyL_len]; exact h.fit, fun j hj => ?_, ?_⟩
  · rw [hne j (by omega)]
    exact h.cells j hj
  · rw [hne _ (Nat.le_refl _)]
    exact h.stop
theorem applyL_snoc_get (c : List UInt32) (ws : List Wr) (x : Wr) (j : Nat) (hx : x.at_ < c.length) : (applyL c (ws ++ [x])).getD j 0 = if x.at_ = j then x.word else (applyL c ws).getD j 0 := by
  rw [applyL_snoc, getD_set _ _ _ _ (by rw [applyL_len]; exact hx)]
/-- All the writes: the record is there. -/
theorem append_all {c : List UInt32} {l : List (List UInt32)} (h : Tape c l) (r : List UInt32) (h0 : 1 ≤ r.length) (h1 : r.length ≤ 64) (hf : (encL l).length + 1 + r.length ≤ c.length) :
    Tape (applyL c (appendW c.length (encL l).length r)) (l ++ [r]) := by
  have hlen : (encL (l ++ [r])).length = (encL l).length + 1 + r.length := by
    rw [encL_snoc]
    simp
    omega
  have hget : ∀ j, j ≤ (encL l).length + 1 + r.length → (applyL c (appendW c.length (encL l).length r)).getD j 0 =
      if (encL l).length = j then UInt32.ofNat r.length else if (encL l).length + 1 ≤ j ∧ j < (encL l).length + 1 + r.length then r.getD (j - ((encL l).length + 1)) 0 else if j < (encL l).length then c.getD j 0 else 0 := by
    intro j hj
    unfold appendW
    rw [applyL_snoc_get _ _ _ _ (by show (encL l).length < c.length; omega)]
    show (if (encL l).length = j then UInt32.ofNat r.length else _) = _
    by_cases e1 : (encL l).length = j
    · rw [if_pos e1, if_pos e1]
    · rw [if_neg e1, if_neg e1]
      by_cases e2 : (encL l).length + 1 + r.length < c.length
      · rw [if_pos e2, applyL_snoc_get _ _ _ _ e2]
        show (if (encL l).length + 1 + r.length = j then 0 else _) = _
        rw [recW_get _ _ _ hf]
        by_cases e3 : (encL l).length + 1 + r.length = j
        · rw [if_pos e3, if_neg (by omega), if_neg (by omega)]
        · rw [if_neg e3]
          by_cases e4 : (encL l).length + 1 ≤ j ∧ j < (encL l).length + 1 + r.length
          · rw [if_pos e4, if_pos e4]
          · rw [if_neg e4, if_neg e4, if_pos (by omega)]
      · rw [if_neg e2, List.append_nil, recW_get _ _ _ hf]
        by_cases e4 : (encL l).length + 1 ≤ j ∧ j < (encL l).length + 1 + r.length
        · rw [if_pos e4, if_pos e4]
        · rw [if_neg e4, if_neg e4]
          by_cases e5 : j < (encL l).length
          · rw [if_pos e5]
          · rw [if_neg e5]
            simp [List.getD]
            rw [List.getElem?_eq_none (by omega)]
            rfl
  refine ⟨?_, by rw [applyL_len, hlen]; exact hf, fun j hj => ?_, ?_⟩
  · intro x hx
    rcases List.mem_append.1 hx with hx | hx
    · exact h.recs x hx
    · simp at hx
      subst hx
      exact ⟨h0, h1⟩
  · rw [hlen] at hj
    rw [hget j (by omega), encL_snoc]
    by_cases e1 : (encL l).length = j
    · rw [if_pos e1]
      subst e1
      simp [List.getD]
    · rw [if_neg e1]
      by_cases e4 : (encL l).length + 1 ≤ j
      · rw [if_pos ⟨e4, hj⟩]
        have : j - (encL l).length = (j - ((encL l).length + 1)) + 1 := by omega
        simp only [List.getD]
        rw [List.getElem?_append_right (by omega), this]
        rfl
      · rw [if_neg (by omega), if_pos (by omega), h.cells j (by omega)]
        simp only [List.getD]
        rw [List.getElem?_append_left (by omega)]
  · rw [hlen, hget _ (Nat.le_refl _), if_neg (by omega), if_neg (by omega), if_neg (by omega)]
theorem tape_zero (n : Nat) : Tape (List.replicate n 0) [] := by
  refine ⟨by simp, by simp [encL], by simp [encL], ?_⟩
  simp [List.getD, List.getElem?_replicate]
  split <;> rfl
/-- A record's head and words, where k records stand ahead of it. -/
theorem encL_take (l : List (List UInt32)) (k : Nat) (hk : k < l.length) : (encL (l.take (k + 1))).length = (encL (l.take k)).length + 1 + l[k].length := by
  rw [List.take_succ_eq_append_getElem hk, encL_snoc]
  simp
  omega
theorem encL_pre (l : List (List UInt32)) (k : Nat) : ∃ t, encL l = encL (l.take k) ++ t := ⟨encL (l.drop k), by
  unfold encL
  rw [← List.flatMap_append, List.take_append_drop]⟩
theorem Tape.head {c : List UInt32} {l : List (List UInt32)} (h : Tape c l) (k : Nat) (hk : k < l.length) :
    (encL (l.take k)).length < c.length ∧ c.getD (encL (l.take k)).length 0 = UInt32.ofNat l[k].length ∧ (encL (l.take k)).length + 1 + l[k].length ≤ c.length ∧ (c.drop ((encL (l.take k)).length + 1)).take l[k].length = l[k] := by
  obtain ⟨t, ht⟩ := encL_pre l (k + 1)
  have hl := encL_take l k hk
  have hfit := h.fit
  have hlen : (encL l).length = (encL (l.take (k + 1))).length + t.length := by rw [ht]; simp
  have hcell : ∀ j, j < (encL (l.take k)).length + 1 + l[k].length → c.getD j 0 = (encL (l.take (k + 1))).getD j 0 := by
    intro j hj
    rw [h.cells j (by omega), ht]
    simp only [List.getD]
    rw [List.getElem?_append_left (by omega)]
  have he : encL (l.take (k + 1)) = encL (l.take k) ++ (UInt32.ofNat l[k].length :: l[k]) := by rw [List.take_succ_eq_append_getElem hk, encL_snoc]
  refine ⟨by omega, ?_, by omega, ?_⟩
  · rw [hcell _ (by omega), he]
    simp [List.getD]
  · apply List.ext_getElem
    · simp
      omega
    · intro i h1 h2
      have := hcell ((encL (l.take k)).length + 1 + i) (by omega)
      rw [getD_at _ _ (by omega)] at this
      simp only [List.getElem_take, List.getElem_drop]
      rw [this, he]
      simp only [List.getD]
      rw [List.getElem?_append_right (by omega)]
      have e : (encL (l.take k)).length + 1 + i - (encL (l.take k)).length = i + 1 := by omega
      rw [e]
      simp [h2]
end Go.Proofs.Ytjlihpbnhojdgaa.Cell
