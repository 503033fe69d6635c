/- The walk of CheckSlip. -/
import Derived.Test.YtfdgjaahmbjnpaaDoorSeal
namespace Go.Proofs.YtfdgjaahmbjnpaaDoor.CheckSlip
open Go.RowKit Go.Proofs.YtfdgjaahmbjnpaaDoor.Base Go.Proofs.YtfdgjaahmbjnpaaDoor.Num Go.Proofs.YtfdgjaahmbjnpaaDoor.Chk Go.Proofs.YtfdgjaahmbjnpaaDoor.Rest Go.Proofs.YtfdgjaahmbjnpaaDoor.ChkP Go.Proofs.YtfdgjaahmbjnpaaDoor.Seal
set_option linter.unusedVariables false
set_option linter.unusedSimpArgs false
set_option maxRecDepth 20000

theorem slip_bad (s : ByteArray) (hd : allDig s = true) (i : Nat) (hi : i < s.size) (b : Int) (hb0 : 0 ≤ b) (hb1 : b < 9) :
    allDig (slipped s i (slipD (s[i]'hi) b).toNat) = true ∧ allI (slipped s i (slipD (s[i]'hi) b).toNat) 0 ≠ allI s 0 := by
  obtain ⟨hc1, hc2⟩ := allDig_at s hd i hi
  obtain ⟨hD0, hD1, hv, hne⟩ := slip_val s[i] b ⟨hc1, hc2⟩ hb0 hb1
  have hb : digB (UInt8.ofNat (48 + ((slipD (s[i]'hi) b).toNat : Int)).toNat) = true := by unfold digB; rw [hv]; simp; omega
  refine ⟨slip_dig s i _ hd hb, ?_⟩
  intro h
  unfold allI at h
  have hs := bytes_split s i hi
  have hall := allDig_mem s hd
  rw [slip_list] at h
  have hA : ∀ z ∈ (s.data.toList.drop (i + 1)).reverse, digB z = true := fun z hz => hall z (List.mem_of_mem_drop (by simpa using hz))
  have hB : ∀ z ∈ (s.data.toList.take i).reverse, digB z = true := fun z hz => hall z (List.mem_of_mem_take (by simpa using hz))
  have hx : digB (s[i]'hi) = true := hall _ (by rw [hs]; simp)
  generalize s.data.toList.take i = tk at *
  generalize s.data.toList.drop (i + 1) = dr at *
  rw [hs] at h
  simp only [List.reverse_append, List.reverse_cons, List.reverse_nil, List.nil_append] at h
  have := sum_slip _ _ (UInt8.ofNat (48 + ((slipD (s[i]'hi) b).toNat : Int)).toNat) (s[i]'hi) 0 hA hB hb hx (Ne.symm hne)
  apply this
  rw [List.append_assoc, List.append_assoc]
  exact h



























































end Go.Proofs.YtfdgjaahmbjnpaaDoor.CheckSlip
