/- The contract of cell.Diff, and what its writes are. -/
import Derived.Test.YtccjcdecpgigpaaDoorCell
namespace Go.Proofs.YtccjcdecpgigpaaDoor.Cell
open Go.RowKit Go.Proofs.YtccjcdecpgigpaaDoor.Base
set_option linter.unusedVariables false
set_option linter.unusedSimpArgs false
set_option maxRecDepth 20000

theorem getD_at (a : List UInt32) (k : Nat) (h : k < a.length) : a.getD k 0 = a[k] := by simp [List.getD, h]
/-- The writes of the first n places at which b is not as a. -/
def diffK (a b : List UInt32) : Nat → List Wr
  | 0 => []
  | n + 1 => diffK a b n ++ (if a.getD n 0 = b.getD n 0 then [] else [⟨n, b.getD n 0⟩])
theorem diffK_len (a b : List UInt32) : ∀ n, (diffK a b n).length ≤ n
  | 0 => by simp [diffK]
  | n + 1 => by
    have := diffK_len a b n
    simp only [diffK, List.length_append]
    split <;> simp <;> omega
theorem diffK_in (a b : List UInt32) : ∀ n, ∀ x ∈ diffK a b n, x.at_ < n ∧ a.getD x.at_ 0 ≠ x.word
  | 0 => by simp [diffK]
  | n + 1 => by
    intro x hx
    simp only [diffK, List.mem_append] at hx
    rcases hx with h | h
    · have := diffK_in a b n x h
      exact ⟨by omega, this.2⟩
    · split at h
      · simp at h
      · simp at h
        subst h
        exact ⟨by simp, by assumption⟩
theorem diffK_lt (a b : List UInt32) : ∀ n, (diffK a b n).Pairwise (fun x y => x.at_ < y.at_)
  | 0 => by simp [diffK]
  | n + 1 => by
    simp only [diffK]
    split
    · simpa using diffK_lt a b n
    · rw [List.pairwise_append]
      refine ⟨diffK_lt a b n, by simp, ?_⟩
      intro x hx y hy
      simp at hy
      subst hy
      exact (diffK_in a b n x hx).1
theorem diffK_apply (a b : List UInt32) (hl : a.length = b.length) : ∀ n, n ≤ a.length → applyL a (diffK a b n) = b.take n ++ a.drop n
  | 0, _ => by simp [diffK, applyL]
  | n + 1, h => by
    have h1 := diffK_apply a b hl n (by omega)
    have ha : a.getD n 0 = a[n]'(by omega) := getD_at _ _ _
    have hb : b.getD n 0 = b[n]'(by omega) := getD_at _ _ _
    have hd : a.drop n = a[n]'(by omega) :: a.drop (n + 1) := List.drop_eq_getElem_cons (by omega)
    have ht : b.take (n + 1) = b.take n ++ [b[n]'(by omega)] := List.take_succ_eq_append_getElem (by omega)
    simp only [diffK]
    split
    · rename_i he
      rw [ha, hb] at he
      rw [List.append_nil, h1, hd, ht, he]
      simp only [List.append_assoc, List.singleton_append]
    · have hx : (b.take n).length = n := by simp; omega
      rw [applyL_snoc, h1, hd, ht, hb]
      show (b.take n ++ a[n]'(by omega) :: a.drop (n + 1)).set n (b[n]'(by omega)) = _
      rw [List.set_append, if_neg (by omega), hx, Nat.sub_self, List.set_cons_zero]
      simp only [List.append_assoc, List.singleton_append]

































































end Go.Proofs.YtccjcdecpgigpaaDoor.Cell
