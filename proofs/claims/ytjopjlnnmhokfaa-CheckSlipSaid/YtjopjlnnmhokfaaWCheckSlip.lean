/- The walk of CheckSlip. -/
import Derived.Test.YtjopjlnnmhokfaaSeal
namespace Go.Proofs.Ytjopjlnnmhokfaa.CheckSlip
open Go.RowKit Go.Proofs.Ytjopjlnnmhokfaa.Base Go.Proofs.Ytjopjlnnmhokfaa.Num Go.Proofs.Ytjopjlnnmhokfaa.Chk Go.Proofs.Ytjopjlnnmhokfaa.Rest Go.Proofs.Ytjopjlnnmhokfaa.ChkP Go.Proofs.Ytjopjlnnmhokfaa.Seal
set_option linter.unusedVariables false
set_option linter.unusedSimpArgs false
set_option maxRecDepth 20000

theorem slip_bad (s : ByteArray) (hd : allDig s = true) (i : Nat) (hi : i < s.size) (b : Int) (hb0 : 0 ≤ b) (hb1 : b < 9) :
    allDig (slipped s i (slipD (s[i]'hi) b).toNat) = true ∧ allI (slipped s i (slipD (s[i]'hi) b).toNat) 0 ≠ allI s 0 := by
  obtain ⟨hc1, hc2⟩ := allDig_at s hd i hi
  obtain ⟨hD0, hD1, hv, hne⟩ := slip_val s[i] b ⟨hc1, hc2⟩ hb0 hb1
  have hb : digB (UInt8.ofNat (48 + ((slipD (s[i]'hi) b).toNat : Int)).toNat) = true := by unfold digB; rw [hv]; simp; omega
  refine ⟨slip_dig s i _ hd hb, ?_⟩
  intro h
  unfold allI at h
  have hs := bytes_split s i hi
  have hall := allDig_mem s hd
  rw [slip_list] at h
  have hA : ∀ z ∈ (s.data.toList.drop (i + 1)).reverse, digB z = true := fun z hz => hall z (List.mem_of_mem_drop (by simpa using hz))
  have hB : ∀ z ∈ (s.data.toList.take i).reverse, digB z = true := fun z hz => hall z (List.mem_of_mem_take (by simpa using hz))
  have hx : digB (s[i]'hi) = true := hall _ (by rw [hs]; simp)
  generalize s.data.toList.take i = tk at *
  generalize s.data.toList.drop (i + 1) = dr at *
  rw [hs] at h
  simp only [List.reverse_append, List.reverse_cons, List.reverse_nil, List.nil_append] at h
  have := sum_slip _ _ (UInt8.ofNat (48 + ((slipD (s[i]'hi) b).toNat : Int)).toNat) (s[i]'hi) 0 hA hB hb hx (Ne.symm hne)
  apply this
  rw [List.append_assoc, List.append_assoc]
  exact h
theorem walk (raw : List UInt8) (A : Option Addr) (c : Nat) (at_ by_ : Int) (w : World) (hr : RdE 1 encB w A raw)
    (w1 : (Lit.int .i64 at_).wf = true) (w2 : (Lit.int .i64 by_).wf = true) :
    Calls Try.prog 9 #[.slice A raw.length c, .int .i64 at_, .int .i64 by_] w fun e w' => e = .returned (.bool true) ∧ Below w.heap.size w w' := by
  obtain ⟨a0, a1⟩ := i64_bound w1
  obtain ⟨b0, b1⟩ := i64_bound w2
  clear w1 w2
  have hd0 := numerals_dig raw 199
  obtain ⟨s0, s1⟩ := numerals_size raw 199 (by decide)
  have hd := sealS_dig _ hd0
  have hg := sealS_good _ hd0
  have hz := sealS_size (numerals raw 199)
  obtain ⟨S, hS⟩ : ∃ S, S = sealS (numerals raw 199) := ⟨_, rfl⟩
  rw [← hS] at hd hg hz
  have z0 : 2 ≤ S.size := by omega
  have z1 : S.size ≤ 200 := by omega
  obtain ⟨p0, p1⟩ := pk_bound at_ S.size (by omega)
  obtain ⟨i, hi0⟩ := Int.eq_ofNat_of_zero_le p0
  have hi : i < S.size := by omega
  obtain ⟨q0, q1⟩ := pk_bound by_ 9 (by decide)
  obtain ⟨e1, e2⟩ := slip_bad S hd i hi _ q0 q1
  have ez := slip_size S i (slipD (S[i]'hi) (pk by_ 9)).toNat hi
  have dg := allDig_at S hd i hi
  have HS := Lib.hid hS
  have HI := Lib.hid hi0
  have DG := Lib.hid dg
  have HR := Lib.hid hr
  have HD := Lib.hid hd
  generalize hT : slipped S i (slipD (S[i]'hi) (pk by_ 9)).toNat = T at e1 e2 ez
  have HT := Lib.hid hT
  have E1 := Lib.hid e1
  rw [hg] at e2
  have hf : (allI T 0 == 0) = false := beq_eq_false_iff_ne.mpr e2
  have hgT : (allI S 0 == 0) = true := by rw [hg]; rfl
  have HF := Lib.hid hf
  have HG := Lib.hid hgT
  have EZ := Lib.hid ez
  clear hS hi0 dg hr hd hg hz hT e1 e2 ez hf hgT hd0 s0 s1
  go_enter Try.func9, Try.ntmps9
  go_wp2_with (go_at_call 26; refine (sealed_any raw A c _ HR.out).mono ?_; rw [← HS.out]; rintro e wa ⟨rfl, hba⟩; have HBA := Lib.hid hba; clear hba)
  refine (good_any S _ HD.out (by omega) z1).mono ?_
  rw [HG.out]
  rintro e wb ⟨rfl, hbb⟩
  have HBB := Lib.hid hbb
  clear hbb
  go_wp2_with fail
  refine (slipped_any S at_ by_ _ (by omega) (by omega) a0 a1 b0 b1 i hi HI.out DG.out).mono ?_
  rw [HT.out]
  rintro e wc ⟨rfl, hbc⟩
  have HBC := Lib.hid hbc
  clear hbc
  go_wp2_with fail
  refine (good_any T _ E1.out (by rw [EZ.out]; omega) (by rw [EZ.out]; exact z1)).mono ?_
  rw [HF.out]
  rintro e wd ⟨rfl, hbd⟩
  have HBD := Lib.hid hbd
  clear hbd
  go_wp2
  go_ret
  exact ⟨rfl, below_then' (below_then' (below_then' HBA.out HBB.out) HBC.out) HBD.out⟩
end Go.Proofs.Ytjopjlnnmhokfaa.CheckSlip
