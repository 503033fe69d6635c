/- Plain: a text cut at the first instance of one byte. -/
import Derived.Lib.IndexMore
namespace Go.Proofs.YtfdgjaahmbjnpaaDoor.Dec
open Go
set_option linter.unusedVariables false
def cutL (c : UInt8) : List UInt8 → List UInt8 × List UInt8 × Bool
  | [] => ([], [], false)
  | x :: l => if x = c then ([], l, true) else (x :: (cutL c l).1, (cutL c l).2.1, (cutL c l).2.2)
theorem index_cons (c x : UInt8) (l : List UInt8) : Lib.index (x :: l) [c] = if x = c then 0 else if Lib.index l [c] < 0 then -1 else Lib.index l [c] + 1 := by
  by_cases h : x = c
  · subst h
    rw [if_pos rfl]
    unfold Lib.index
    simp [List.isPrefixOf]
  · rw [if_neg h]
    have hb : (c == x) = false := beq_eq_false_iff_ne.mpr (fun e => h e.symm)
    have hge := Lib.index_ge l [c]
    rw [Lib.index]
    simp only [List.isPrefixOf, hb, Bool.false_and, Bool.false_eq_true, if_false]
    by_cases hn : Lib.index l [c] = -1
    · rw [hn]; rfl
    · rw [if_neg (by simpa using hn), if_neg (by omega)]
theorem cut_one (c : UInt8) (l : List UInt8) : Lib.cut l [c] = cutL c l := by
  induction l with
  | nil => rfl
  | cons x l ih =>
    have hge := Lib.index_ge l [c]
    unfold Lib.cut at ih ⊢
    rw [index_cons]
    unfold cutL
    by_cases h : x = c
    · subst h
      simp
    · rw [if_neg h, if_neg h, ← ih]
      by_cases hn : Lib.index l [c] < 0
      · rw [if_pos hn, if_neg (by omega), if_neg (by omega)]
      · rw [if_neg hn, if_pos (by omega), if_pos (by omega)]
        rw [show (Lib.index l [c] + 1).toNat = (Lib.index l [c]).toNat + 1 by omega]
        simp
theorem cutL_hit (c : UInt8) (a b : List UInt8) (h : c ∉ a) : cutL c (a ++ c :: b) = (a, b, true) := by
  induction a with
  | nil => simp [cutL]
  | cons x a ih =>
    simp only [List.mem_cons, not_or] at h
    simp only [List.cons_append, cutL, ih h.2]
    rw [if_neg (fun e => h.1 e.symm)]
theorem cutL_miss (c : UInt8) (l : List UInt8) (h : c ∉ l) : cutL c l = (l, [], false) := by
  induction l with
  | nil => rfl
  | cons x a ih =>
    simp only [List.mem_cons, not_or] at h
    simp only [cutL, ih h.2]
    rw [if_neg (fun e => h.1 e.symm)]
/-- Either there is one: what is ahead of it has none; or there is none. -/
theorem cutL_spec (c : UInt8) (l : List UInt8) : (∃ a b, l = a ++ c :: b ∧ c ∉ a ∧ cutL c l = (a, b, true)) ∨ (c ∉ l ∧ cutL c l = (l, [], false)) := by
  by_cases h : c ∈ l
  · refine .inl ?_
    induction l with
    | nil => simp at h
    | cons x l ih =>
      by_cases hx : x = c
      · subst hx
        exact ⟨[], l, rfl, by simp, by simp [cutL]⟩
      · have hl : c ∈ l := by
          rcases List.mem_cons.1 h with e | e
          · exact absurd e.symm hx
          · exact e
        obtain ⟨a, b, e1, e2, e3⟩ := ih hl
        refine ⟨x :: a, b, by rw [e1]; rfl, ?_, ?_⟩
        · simp only [List.mem_cons, not_or]
          exact ⟨fun e => hx e.symm, e2⟩
        · simp only [cutL, e3]
          rw [if_neg hx]
  · exact .inr ⟨h, cutL_miss c l h⟩
theorem cutL_len (c : UInt8) (l : List UInt8) : (cutL c l).1.length + (cutL c l).2.1.length ≤ l.length := by
  rcases cutL_spec c l with ⟨a, b, e1, _, e3⟩ | ⟨_, e3⟩ <;> rw [e3]
  · rw [e1]; simp
  · simp
end Go.Proofs.YtfdgjaahmbjnpaaDoor.Dec
