/- The walk of CheckSwap. -/
import Derived.Test.YtjopjlnnmhokfaaSeal
namespace Go.Proofs.Ytjopjlnnmhokfaa.CheckSwap
open Go.RowKit Go.Proofs.Ytjopjlnnmhokfaa.Base Go.Proofs.Ytjopjlnnmhokfaa.Num Go.Proofs.Ytjopjlnnmhokfaa.Chk Go.Proofs.Ytjopjlnnmhokfaa.Rest Go.Proofs.Ytjopjlnnmhokfaa.ChkP Go.Proofs.Ytjopjlnnmhokfaa.Seal Go.Proofs.Ytjopjlnnmhokfaa.RestSwaps
set_option linter.unusedVariables false
set_option linter.unusedSimpArgs false
set_option maxRecDepth 20000

theorem swap_sum (s : ByteArray) (hd : allDig s = true) (i : Nat) (hi : i + 1 < s.size) (h : allI (swapped s i 1) 0 = allI s 0) : s.toList = (swapped s i 1).toList := by
  rw [ByteArray.toList_eq, ByteArray.toList_eq]
  unfold allI at h
  have hall := allDig_mem s hd
  have hs := split3 s i 1 (by decide) hi
  rw [swapped_list s i 1 (by decide) hi] at h ⊢
  have hm : (s.data.toList.take (i + 1)).drop (i + 1) = [] := List.drop_eq_nil_of_le (by simp; omega)
  rw [hm] at h hs ⊢
  have hA : ∀ z ∈ (s.data.toList.drop (i + 1 + 1)).reverse, digB z = true := fun z hz => hall z (List.mem_of_mem_drop (by simpa using hz))
  have hB : ∀ z ∈ (s.data.toList.take i).reverse, digB z = true := fun z hz => hall z (List.mem_of_mem_take (by simpa using hz))
  have hx : digB (s[i]'(by omega)) = true := hall _ (by rw [hs]; simp)
  have hy : digB (s[i + 1]'hi) = true := hall _ (by rw [hs]; simp)
  generalize s.data.toList.take i = tk at *
  generalize s.data.toList.drop (i + 1 + 1) = dr at *
  by_cases hxy : s[i]'(by omega) = s[i + 1]'hi
  · rw [hxy] at hs ⊢
    exact hs
  · exfalso
    have := sum_swap _ _ _ _ 0 hA hB hx hy hxy
    apply this
    rw [hs] at h
    simp only [List.reverse_append, List.reverse_cons, List.reverse_nil, List.nil_append, List.append_nil, List.append_assoc] at h ⊢
    simpa using h
theorem walk (raw : List UInt8) (A : Option Addr) (c : Nat) (at_ : Int) (w : World) (hr : RdE 1 encB w A raw)
    (w1 : (Lit.int .i64 at_).wf = true) :
    Calls Try.prog 10 #[.slice A raw.length c, .int .i64 at_] w fun e w' => e = .returned (.bool true) ∧ Below w.heap.size w w' := by
  obtain ⟨a0, a1⟩ := i64_bound w1
  clear w1
  have hd0 := numerals_dig raw 199
  obtain ⟨s0, s1⟩ := numerals_size raw 199 (by decide)
  have hd := sealS_dig _ hd0
  have hg := sealS_good _ hd0
  have hz := sealS_size (numerals raw 199)
  obtain ⟨S, hS⟩ : ∃ S, S = sealS (numerals raw 199) := ⟨_, rfl⟩
  rw [← hS] at hd hg hz
  have z0 : 2 ≤ S.size := by omega
  have z1 : S.size ≤ 200 := by omega
  obtain ⟨p0, p1⟩ := pk_bound at_ ((S.size : Int) - (1 : Nat)) (by omega)
  obtain ⟨i, hi0⟩ := Int.eq_ofNat_of_zero_le p0
  have hi : i + 1 < S.size := by omega
  have ez := swapped_size S i 1 (by decide) hi
  have ed := swapped_dig S i 1 (by decide) hi hd
  have hpl : (allI (swapped S i 1) 0 == 0) = (S.toList == (swapped S i 1).toList) := by
    rw [Bool.eq_iff_iff, beq_iff_eq, beq_iff_eq]
    constructor
    · intro h
      exact swap_sum S hd i hi (by rw [h, hg])
    · intro h
      rw [ByteArray.toList_eq, ByteArray.toList_eq] at h
      unfold allI at hg ⊢
      rw [← h]
      exact hg
  have hgT : (allI S 0 == 0) = true := by rw [hg]; rfl
  have HS := Lib.hid hS
  have HI := Lib.hid hi0
  have HR := Lib.hid hr
  have HD := Lib.hid hd
  have hsw := fun w => swapped_any S at_ 1 w (by omega) (by omega) a0 a1 i hi hi0
  generalize hT : swapped S i 1 = T at ez ed hpl hsw
  have SW := Lib.hid hsw
  have HT := Lib.hid hT
  have ED := Lib.hid ed
  have EZ := Lib.hid ez
  have HG := Lib.hid hgT
  have HP := Lib.hid hpl
  clear hS hi0 hr hd hg hz hT ed ez hgT hd0 s0 s1 hpl hsw
  go_enter Try.func10, Try.ntmps10
  go_wp2_with (go_at_call 26; refine (sealed_any raw A c _ HR.out).mono ?_; rw [← HS.out]; rintro e wa ⟨rfl, hba⟩; have HBA := Lib.hid hba; clear hba)
  refine (SW.out _).mono ?_
  rintro e wb ⟨rfl, hbb⟩
  have HBB := Lib.hid hbb
  clear hbb
  go_wp2_with fail
  refine (good_any S _ HD.out (by omega) z1).mono ?_
  rw [HG.out]
  rintro e wc ⟨rfl, hbc⟩
  have HBC := Lib.hid hbc
  clear hbc
  go_wp2_with fail
  refine (good_any T _ ED.out (by rw [EZ.out]; omega) (by rw [EZ.out]; exact z1)).mono ?_
  rintro e wd ⟨rfl, hbd⟩
  have HBD := Lib.hid hbd
  clear hbd
  go_wp2
  go_ret
  exact ⟨ret_bool (by rw [HP.out]; simp), below_then' (below_then' (below_then' HBA.out HBB.out) (HBC.out)) (HBD.out)⟩
end Go.Proofs.Ytjopjlnnmhokfaa.CheckSwap
