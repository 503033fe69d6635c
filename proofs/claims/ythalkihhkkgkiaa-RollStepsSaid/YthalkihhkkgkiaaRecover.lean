/- The contract of debt.Recover. -/
import Derived.Test.YthalkihhkkgkiaaDebt2
namespace Go.Proofs.Ythalkihhkkgkiaa.Debt
open Go.RowKit Go.Proofs.Ythalkihhkkgkiaa.Base
set_option linter.unusedVariables false
set_option linter.unusedSimpArgs false
set_option maxRecDepth 20000

def recStep (share : Int) (st : List Db × Int) (d : Db) : List Db × Int :=
  if share - st.2 < d.a then (st.1 ++ [⟨d.a - (share - st.2), d.b⟩], share) else (st.1, st.2 + d.a)
def recL (share : Int) (xs : List Db) : List Db × Int := xs.foldl (recStep share) ([], 0)
theorem recL_snoc (share : Int) (xs : List Db) (d : Db) : recL share (xs ++ [d]) = recStep share (recL share xs) d := by
  unfold recL; rw [List.foldl_append]; rfl
theorem recL_inv (share : Int) (h0 : 0 ≤ share) (xs : List Db) : (∀ x ∈ xs, x.ok) → (0 ≤ (recL share xs).2 ∧ (recL share xs).2 ≤ share) ∧ (∀ x ∈ (recL share xs).1, x.ok ∧ 1 ≤ x.a) ∧ (recL share xs).1.length ≤ xs.length := by
  refine snoc_ind (P := fun xs => (∀ x ∈ xs, x.ok) → (0 ≤ (recL share xs).2 ∧ (recL share xs).2 ≤ share) ∧ (∀ x ∈ (recL share xs).1, x.ok ∧ 1 ≤ x.a) ∧ (recL share xs).1.length ≤ xs.length) ?_ ?_ xs
  · intro _
    simp [recL, h0]
  · intro l d ih hk
    obtain ⟨⟨p0, p1⟩, hx, hl⟩ := ih (fun x hx => hk x (List.mem_append_left _ hx))
    obtain ⟨⟨d0, d1⟩, d2, d3⟩ := hk d (by simp)
    rw [recL_snoc]
    unfold recStep
    split
    · refine ⟨⟨by simp; omega, by simp⟩, ?_, by simp; omega⟩
      intro x hm
      simp at hm
      rcases hm with h | h
      · exact hx x h
      · subst h
        unfold Db.ok
        simp only
        omega
    · exact ⟨⟨by simp; omega, by simp; omega⟩, hx, by simp; omega⟩

theorem own_set_new {w : World} {base : Nat} {e : TypeId} {size n : Nat} {v : Value} {xs : List Value} (h : w.ownsRow base e size v n xs) (o : Obj) (j : Nat) (u : Value) : ((w.alloc o).setCell ⟨w.heap.size, j, none⟩ u).ownsRow base e size v n xs := by
  refine h.kept (row := none) ⟨rfl, rfl, rfl, by simp, fun k hk _ => ?_⟩ ?_
  · rw [heap_setCell_other (w.alloc o) ⟨w.heap.size, j, none⟩ k u (by simp; omega)]
    exact (World.grownBy_alloc w o none).block k hk (by simp)
  · cases hv : v.ownBlock with
    | none => exact .inl rfl
    | some k => exact .inr (by simp)



















































































end Go.Proofs.Ythalkihhkkgkiaa.Debt
