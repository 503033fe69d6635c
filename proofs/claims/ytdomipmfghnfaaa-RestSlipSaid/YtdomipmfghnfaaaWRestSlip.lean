/- The walk of RestSlip. -/
import Derived.Test.YtdomipmfghnfaaaRest
namespace Go.Proofs.Ytdomipmfghnfaaa.RestSlip
open Go.RowKit Go.Proofs.Ytdomipmfghnfaaa.Base Go.Proofs.Ytdomipmfghnfaaa.Num Go.Proofs.Ytdomipmfghnfaaa.Chk Go.Proofs.Ytdomipmfghnfaaa.Rest
set_option linter.unusedVariables false
set_option linter.unusedSimpArgs false

theorem walk (raw : List UInt8) (A : Option Addr) (c : Nat) (at_ by_ : Int) (w : World) (hr : RdE 1 encB w A raw)
    (w1 : (Lit.int .i64 at_).wf = true) (w2 : (Lit.int .i64 by_).wf = true) :
    Calls Try.prog 5 #[.slice A raw.length c, .int .i64 at_, .int .i64 by_] w fun e w' => e = .returned (.bool true) ∧ Below w.heap.size w w' := by
  obtain ⟨a0, a1⟩ := i64_bound w1
  obtain ⟨b0, b1⟩ := i64_bound w2
  clear w1 w2
  obtain ⟨S, hS⟩ : ∃ S, S = numerals raw 200 := ⟨_, rfl⟩
  obtain ⟨s0, s1⟩ := numerals_size raw 200 (by decide)
  have hd := numerals_dig raw 200
  rw [← hS] at s0 s1 hd
  obtain ⟨p0, p1⟩ := pk_bound at_ S.size (by omega)
  obtain ⟨i, hi0⟩ := Int.eq_ofNat_of_zero_le p0
  have hi : i < S.size := by omega
  obtain ⟨q0, q1⟩ := pk_bound by_ 9 (by decide)
  obtain ⟨e2, ne⟩ := slip_plain S s0 s1 hd i hi _ q0 q1
  have e1 := digitsE_ok S s0 s1 hd
  have dg := allDig_at S hd i hi
  obtain ⟨r0, r1⟩ := restL_bound S.data.toList
  have hne : (restL S.data.toList != restL (slipped S i (slipD (S[i]'hi) (pk by_ 9)).toNat).data.toList) = true := bne_iff_ne.mpr ne
  have HS := Lib.hid hS
  have HI := Lib.hid hi0
  have E1 := Lib.hid e1
  have E2 := Lib.hid e2
  have DG := Lib.hid dg
  have HR := Lib.hid hr
  clear hS hi0 e1 e2 dg ne hr
  generalize hT : slipped S i (slipD (S[i]'hi) (pk by_ 9)).toNat = T at hne E2
  have HT := Lib.hid hT
  clear hT
  go_enter Try.func5, Try.ntmps5
  go_wp2_with (go_at_call 18; refine (numerals_at raw 200 _ A c _ HR.out rfl (by decide) (by decide)).mono ?_; rw [← HS.out]; rintro e wa ⟨rfl, hba⟩; have HBA := Lib.hid hba; clear hba)
  refine (rest_ok S _ E1.out).mono ?_
  rintro e wb ⟨rfl, hbb⟩
  have HBB := Lib.hid hbb
  clear hbb
  go_wp2_with fail
  refine (slipped_any S at_ by_ _ s0 (by omega) a0 a1 b0 b1 i hi HI.out DG.out).mono ?_
  rw [HT.out]
  rintro e wc ⟨rfl, hbc⟩
  have HBC := Lib.hid hbc
  clear hbc
  go_wp2_with fail
  refine (rest_ok T _ E2.out).mono ?_
  rintro e wd ⟨rfl, hbd⟩
  have HBD := Lib.hid hbd
  clear hbd
  go_wp2
  go_ret
  exact ⟨rfl, below_then' (below_then' (below_then' HBA.out HBB.out) (HBC.out)) (HBD.out)⟩
end Go.Proofs.Ytdomipmfghnfaaa.RestSlip
