/- The walk of DiskFull. -/
import Derived.Test.YtjlihpbnhojdgaaTape
namespace Go.Proofs.Ytjlihpbnhojdgaa.DiskFull
open Go.RowKit Go.Proofs.Ytjlihpbnhojdgaa.Base Go.Proofs.Ytjlihpbnhojdgaa.Cell
set_option linter.unusedVariables false
set_option linter.unusedSimpArgs false
set_option maxRecDepth 20000
set_option maxHeartbeats 4000000 in
theorem walk (recs : List (List UInt32)) (A : Option Addr) (q : Nat) (rec : List UInt32) (R : Option Addr) (d : Nat) (mq : Int) (w : World) (hr : Open.RdR 1 (fun (xs : List UInt32) cs => ∃ A c, cs = [Value.slice A xs.length c] ∧ xs.length ≤ c ∧ Open.RdR 1 (fun (x : UInt32) cs => cs = encW x) w A xs) w A recs) (hl : RdE 1 encW w R rec) (wm : (Lit.int .i64 mq).wf = true) :
    Calls Try.prog 9 #[.slice A recs.length q, .slice R rec.length d, .int .i64 mq] w fun e w' => e = .returned (.bool true) ∧ Below w.heap.size w w' := by
  obtain ⟨m0, m1⟩ := i64_bound wm
  obtain ⟨p0, p1⟩ := pk_bound mq 24 (by omega)
  have HP := Lib.hid (fun w => picked_any mq 24 w m0 m1 (by omega))
  obtain ⟨mo, hmo⟩ : ∃ m : Nat, pk mq 24 = (m : Int) := ⟨(pk mq 24).toNat, by omega⟩
  rw [hmo] at HP p0 p1
  have hrs := RdS.of hr
  have hmx := hrs.1
  have HRS := Lib.hid hrs
  have HR := Lib.hid hl
  have HSM := Lib.hid (fun w hr => some_few rec 20 20 R d w hr rfl (by omega) (by omega))
  obtain ⟨r0, r1⟩ := some_len rec 20 (by omega)
  clear hr wm hmo m0 m1 hrs hl
  generalize someL rec 20 = y at *
  by_cases hz : recs.length = 0 ∧ mo = 0
  · obtain ⟨hz1, rfl⟩ := hz
    rw [hz1]
    clear hz1 hmx
    go_enter Try.func9, Try.ntmps9
    go_wp2_with (fail)
    go_at_call 15
    refine (HP.out _).mono ?_
    rintro e w' ⟨rfl, rfl⟩
    go_wp2_with (fail)
    go_at_call 31
    refine (tape_zero2 A q _).mono ?_
    rintro e w' ⟨rfl, rfl⟩
    go_wp2_with (fail)
    go_at_call 20
    refine (HSM.out _ HR.out).mono ?_
    rintro e w1 ⟨F, f, rfl, ho, hb⟩
    have HB := Lib.hid hb
    clear ho hb
    go_wp2
    go_ret
    exact ⟨rfl, HB.out⟩
  · have HTP := Lib.hid (fun w hr => tape_any recs mo A q w hr (by omega) (by omega))
    go_enter Try.func9, Try.ntmps9
    go_wp2_with (fail)
    go_at_call 15
    refine (HP.out _).mono ?_
    rintro e w' ⟨rfl, rfl⟩
    have HZ := Lib.hid hz
    clear hz
    go_wp2_with (fail)
    go_at_call 31
    refine (HTP.out _ HRS.out).mono ?_
    rintro e w1 ⟨k1, B, p, c, D, r, hk1, rfl, hcl, hc0, hc1, hcp, ht, hrc, hos, hb⟩
    have HB := Lib.hid hb
    have HT := Lib.hid ht
    have RC := Lib.hid hrc
    have HO := Lib.hid hos
    have hle := enc_le _ (fun r hr => (tapeL_in recs k1 r hr).2)
    have hln := tapeL_len recs k1 (by omega)
    have HLN := Lib.hid hln
    have HIN := Lib.hid (tapeL_in recs k1)
    have hlb : (tapeL recs k1).length ≤ 12 := by omega
    have HCL := Lib.hid hcl
    have HCP := Lib.hid hcp
    have HK1 := Lib.hid hk1
    clear hb ht hrc hos hcl hcp hk1 hle hln
    generalize tapeL recs k1 = L at *
    go_wp2_with (fail)
    go_at_call 20
    refine (HSM.out _ (HR.out.below HB.out)).mono ?_
    rintro e w2 ⟨F, f, rfl, ho, hb⟩
    have RF := Lib.hid (OwW.read ho)
    have RC2 := Lib.hid (RC.out.below hb)
    have HB2 := Lib.hid (HB.out.trans (hb.mono HB.out.size))
    clear ho hb
    have hn : ¬ (L.length = 0 ∧ mo = 0) := by
      intro h
      have h1 := HLN.out
      have h2 := HK1.out
      exact HZ.out ⟨by omega, h.2⟩
    by_cases hfit : y.length + 1 > mo
    · have HAF := Lib.hid (append_full c y L B F p f w2 RC2.out HT.out hc0 hc1 HCP.out r0 (by omega) (by have := HCL.out; omega))
      have hfi : (mo : Int) < (y.length : Int) + 1 := by omega
      clear hfit
      by_cases hz : L.length = 0
      all_goals
        first
          | (have h1 : ((L.length : Int) == 0) = true := by simp only [beq_iff_eq]; omega
             have h2 : ((mo : Int) == 0) = false := beq_eq_false_iff_ne.mpr (by omega)
             have h3 : (L.length == 0) = true := by simp only [beq_iff_eq]; omega
             have h4 : (mo == 0) = false := beq_eq_false_iff_ne.mpr (by omega))
          | (have h1 : ((L.length : Int) == 0) = false := beq_eq_false_iff_ne.mpr (by omega)
             have h3 : (L.length == 0) = false := beq_eq_false_iff_ne.mpr (by omega))
        clear hz hn
        go_wp2_with (fail)
        go_at_call 32
        refine HAF.out.mono ?_
        rintro e w' ⟨rfl, rfl⟩
        go_wp2
        go_ret
        exact ⟨rfl, HB2.out⟩
    · have HAY := Lib.hid (append_yes c y L B F p f w2 RC2.out RF.out HT.out hc0 hc1 HCP.out r0 (by omega) (by have := HCL.out; omega))
      obtain ⟨l0, l1⟩ := appendW_len c.length (encL L).length y
      have hfi : (y.length : Int) + 1 ≤ (mo : Int) := by omega
      clear hfit
      generalize appendW c.length (encL L).length y = ws at *
      have hw1 : (y.length : Int) < (ws.length : Int) := by omega
      by_cases hz : L.length = 0
      all_goals
        first
          | (have h1 : ((L.length : Int) == 0) = true := by simp only [beq_iff_eq]; omega
             have h2 : ((mo : Int) == 0) = false := beq_eq_false_iff_ne.mpr (by omega)
             have h3 : (L.length == 0) = true := by simp only [beq_iff_eq]; omega
             have h4 : (mo == 0) = false := beq_eq_false_iff_ne.mpr (by omega))
          | (have h1 : ((L.length : Int) == 0) = false := beq_eq_false_iff_ne.mpr (by omega)
             have h3 : (L.length == 0) = false := beq_eq_false_iff_ne.mpr (by omega))
        clear hz hn
        go_wp2_with (fail)
        go_at_call 32
        refine HAY.out.mono ?_
        rintro e w3 ⟨G, g, rfl, ho, hb⟩
        have HB3 := Lib.hid (HB2.out.trans (hb.mono HB2.out.size))
        clear ho hb
        go_wp2
        go_ret
        exact ⟨by first | rfl | exact ret_bool (by simp), HB3.out⟩
end Go.Proofs.Ytjlihpbnhojdgaa.DiskFull
