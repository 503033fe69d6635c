/- The plain law of the oracle: the pairs stay good behind Issue. -/
import Derived.Test.YtccjcdecpgigpaaDoorOrc2
namespace Go.Proofs.YtccjcdecpgigpaaDoor.Orc
open Go.RowKit Go.Proofs.YtccjcdecpgigpaaDoor.Base Go.Maps
set_option linter.unusedVariables false
set_option linter.unusedSimpArgs false
set_option maxRecDepth 20000
/-- What stands of the pairs from ask to ask. -/
structure Kept (ps : List Pr) (n : Nat) : Prop where
  good : Good ps
  ok : ∀ p ∈ ps, p.ok
  len : ps.length ≤ n
theorem Kept.nil : Kept [] 0 := ⟨⟨by simp, fun i p h => by simp at h⟩, by simp, by simp⟩
theorem tagL_le (ps : List Pr) (m r b : Int) (h : ∀ p ∈ ps, okP p = true) : 0 ≤ tagL ps m r b ∧ tagL ps m r b ≤ 65535 := by
  have key : ∀ (ps : List Pr) (t : Int), (∀ p ∈ ps, okP p = true) → (0 ≤ t ∧ t ≤ 65535) → 0 ≤ ps.foldl (fun t p => if same p m r b then p.t else t) t ∧ ps.foldl (fun t p => if same p m r b then p.t else t) t ≤ 65535 := by
    intro ps
    induction ps with
    | nil => intro t _ h; exact h
    | cons p ps ih =>
      intro t hp ht
      rw [List.foldl_cons]
      refine ih _ (fun q hq => hp q (List.mem_cons_of_mem _ hq)) ?_
      split
      · have := hp p List.mem_cons_self
        simp [okP] at this
        omega
      · exact ht
  exact key ps 0 h (by omega)
theorem Good.all {ps : List Pr} (h : Good ps) : ∀ p ∈ ps, okP p = true := by
  intro p hp
  obtain ⟨i, hi, rfl⟩ := List.mem_iff_getElem.mp hp
  have := h.2 i _ (List.getElem?_eq_getElem hi)
  simp [goodAt] at this
  exact this.1
theorem Kept.step {ps : List Pr} {n : Nat} (h : Kept ps n) (hn : n < 500) {m r b d : Int} (hw : wok m r b = true) (i0 : i64 m) (i1 : i64 r) (i2 : i64 b) (d0 : 0 ≤ d) (d1 : d ≤ 65535) : Kept (issL ps m r b d) (n + 1) := by
  unfold issL
  split
  · exact ⟨h.good, h.ok, Nat.le_succ_of_le h.len⟩
  · rename_i hh
    have hl := h.len
    refine ⟨⟨by simp; omega, ?_⟩, ?_, by simp; omega⟩
    · intro i p hp
      by_cases hi : i < ps.length
      · rw [List.getElem?_append_left hi] at hp
        have := h.good.2 i p hp
        unfold goodAt at this ⊢
        rwa [List.take_append_of_le_length (by omega)]
      · rw [List.getElem?_append_right (by omega)] at hp
        have h0 : i - ps.length = 0 := by
          rcases Nat.eq_zero_or_pos (i - ps.length) with h0 | h0
          · exact h0
          · rw [List.getElem?_eq_none (by simp; omega)] at hp; cases hp
        rw [h0] at hp
        simp at hp
        subst hp
        unfold goodAt okP
        obtain rfl : i = ps.length := by omega
        simp at hh ⊢
        exact ⟨⟨hw, d0, d1⟩, hh⟩
    · intro p hp
      rcases List.mem_append.mp hp with hp | hp
      · exact h.ok p hp
      · simp at hp
        subst hp
        exact ⟨⟨i0, i1⟩, i2, by unfold i64; dsimp only; omega⟩
theorem had_iss (ps : List Pr) (m r b d : Int) : had (issL ps m r b d) m r b = true := by
  unfold issL
  split
  · assumption
  · rw [had_snoc]; simp [same]
theorem tag_iss (ps : List Pr) (m r b d : Int) : tagL (issL ps m r b d) m r b = issT ps m r b d := by
  unfold issL issT
  split
  · rfl
  · rw [tagL_snoc]; simp [same]
theorem iss_again (ps : List Pr) (m r b d d' : Int) : issL (issL ps m r b d) m r b d' = issL ps m r b d ∧ issT (issL ps m r b d) m r b d' = issT ps m r b d := by
  constructor
  · rw [issL, if_pos (had_iss ps m r b d)]
  · rw [issT, if_pos (had_iss ps m r b d), tag_iss]
theorem iss_len (ps : List Pr) (m r b d : Int) : 0 < (issL ps m r b d).length ∧ (issL ps m r b d).length ≤ ps.length + 1 := by
  have h := had_iss ps m r b d
  constructor
  · cases hl : issL ps m r b d with
    | nil => rw [hl] at h; cases h
    | cons _ _ => simp
  · unfold issL
    split <;> simp

/-! ### the contracts -/
theorem OwPr.nil_of {base : Nat} {w : World} {A : Option Addr} {c : Nat} {xs : List Pr} (h : OwPr base w A c xs) : A = none → xs = [] ∧ c = 0 := by
  rintro rfl
  rcases h.2 with ⟨e, h0⟩ | ⟨g', cap', cur, e, _⟩
  · injection e with _ e1 e2
    exact ⟨List.length_eq_zero_iff.mp h0, e2⟩
  · cases e
theorem OwPr.after {base : Nat} {w w' : World} {A : Option Addr} {c : Nat} {xs : List Pr} (h : OwPr base w A c xs) (hb : Below w.heap.size w w') : OwPr base w' A c xs := own_after h hb
end Go.Proofs.YtccjcdecpgigpaaDoor.Orc
