/- The walk of CheckSwap. -/
import Derived.Test.YtfdgjaahmbjnpaaDoorSeal
namespace Go.Proofs.YtfdgjaahmbjnpaaDoor.CheckSwap
open Go.RowKit Go.Proofs.YtfdgjaahmbjnpaaDoor.Base Go.Proofs.YtfdgjaahmbjnpaaDoor.Num Go.Proofs.YtfdgjaahmbjnpaaDoor.Chk Go.Proofs.YtfdgjaahmbjnpaaDoor.Rest Go.Proofs.YtfdgjaahmbjnpaaDoor.ChkP Go.Proofs.YtfdgjaahmbjnpaaDoor.Seal Go.Proofs.YtfdgjaahmbjnpaaDoor.RestSwaps
set_option linter.unusedVariables false
set_option linter.unusedSimpArgs false
set_option maxRecDepth 20000

theorem swap_sum (s : ByteArray) (hd : allDig s = true) (i : Nat) (hi : i + 1 < s.size) (h : allI (swapped s i 1) 0 = allI s 0) : s.toList = (swapped s i 1).toList := by
  rw [ByteArray.toList_eq, ByteArray.toList_eq]
  unfold allI at h
  have hall := allDig_mem s hd
  have hs := split3 s i 1 (by decide) hi
  rw [swapped_list s i 1 (by decide) hi] at h ⊢
  have hm : (s.data.toList.take (i + 1)).drop (i + 1) = [] := List.drop_eq_nil_of_le (by simp; omega)
  rw [hm] at h hs ⊢
  have hA : ∀ z ∈ (s.data.toList.drop (i + 1 + 1)).reverse, digB z = true := fun z hz => hall z (List.mem_of_mem_drop (by simpa using hz))
  have hB : ∀ z ∈ (s.data.toList.take i).reverse, digB z = true := fun z hz => hall z (List.mem_of_mem_take (by simpa using hz))
  have hx : digB (s[i]'(by omega)) = true := hall _ (by rw [hs]; simp)
  have hy : digB (s[i + 1]'hi) = true := hall _ (by rw [hs]; simp)
  generalize s.data.toList.take i = tk at *
  generalize s.data.toList.drop (i + 1 + 1) = dr at *
  by_cases hxy : s[i]'(by omega) = s[i + 1]'hi
  · rw [hxy] at hs ⊢
    exact hs
  · exfalso
    have := sum_swap _ _ _ _ 0 hA hB hx hy hxy
    apply this
    rw [hs] at h
    simp only [List.reverse_append, List.reverse_cons, List.reverse_nil, List.nil_append, List.append_nil, List.append_assoc] at h ⊢
    simpa using h































































end Go.Proofs.YtfdgjaahmbjnpaaDoor.CheckSwap
