/- The walk of DiskBack. -/
import Derived.Test.YtjlihpbnhojdgaaTape
namespace Go.Proofs.Ytjlihpbnhojdgaa.DiskBack
open Go.RowKit Go.Proofs.Ytjlihpbnhojdgaa.Base Go.Proofs.Ytjlihpbnhojdgaa.Cell
set_option linter.unusedVariables false
set_option linter.unusedSimpArgs false
set_option maxRecDepth 20000
set_option maxHeartbeats 4000000 in
theorem walk (recs : List (List UInt32)) (A : Option Addr) (q : Nat) (mq : Int) (w : World) (hr : Open.RdR 1 (fun (xs : List UInt32) cs => ∃ A c, cs = [Value.slice A xs.length c] ∧ xs.length ≤ c ∧ Open.RdR 1 (fun (x : UInt32) cs => cs = encW x) w A xs) w A recs) (wm : (Lit.int .i64 mq).wf = true) :
    Calls Try.prog 12 #[.slice A recs.length q, .int .i64 mq] w fun e w' => e = .returned (.bool true) ∧ Below w.heap.size w w' := by
  obtain ⟨m0, m1⟩ := i64_bound wm
  obtain ⟨p0, p1⟩ := pk_bound mq 30 (by omega)
  have HP := Lib.hid (fun w => picked_any mq 30 w m0 m1 (by omega))
  obtain ⟨mo, hmo⟩ : ∃ m : Nat, pk mq 30 = (m : Int) := ⟨(pk mq 30).toNat, by omega⟩
  rw [hmo] at HP p0 p1
  have hrs := RdS.of hr
  have hmx := hrs.1
  have HRS := Lib.hid hrs
  have htp := fun w hr => tape_any recs (mo + 1) A q w hr (by omega) (by omega)
  rw [show ((mo + 1 : Nat) : Int) = 1 + (mo : Int) by omega] at htp
  have HTP := Lib.hid htp
  clear hr wm hmo m0 m1 hrs htp
  go_enter Try.func12, Try.ntmps12
  go_wp2_with (fail)
  go_at_call 15
  refine (HP.out _).mono ?_
  rintro e w' ⟨rfl, rfl⟩
  go_wp2_with (fail)
  go_at_call 31
  refine (HTP.out _ HRS.out).mono ?_
  rintro e w1 ⟨k1, B, p, c, D, r, hk1, rfl, hcl, hc0, hc1, hcp, ht, hrc, hos, hb⟩
  have HB := Lib.hid hb
  have HT := Lib.hid ht
  have RC := Lib.hid hrc
  have HO := Lib.hid hos
  have hle := enc_le _ (fun r hr => (tapeL_in recs k1 r hr).2)
  have hln := tapeL_len recs k1 (by omega)
  have HLN := Lib.hid hln
  have HIN := Lib.hid (tapeL_in recs k1)
  have hlb : (tapeL recs k1).length ≤ 12 := by omega
  have HCL := Lib.hid hcl
  have HCP := Lib.hid hcp
  have HK1 := Lib.hid hk1
  clear hb ht hrc hos hcl hcp hk1 hle hln
  generalize tapeL recs k1 = L at *
  have HRP := Lib.hid (replay_any c L B p w1 RC.out HT.out hc0 hc1 HCP.out (by omega))
  obtain ⟨_, _, he, hrl⟩ := HO.out.read
  cases he
  have HRL := Lib.hid hrl
  clear hrl
  go_wp2_with (fail)
  go_at_call 35
  refine HRP.out.mono ?_
  rintro e w2 ⟨G, g, rfl, hg, hb⟩
  have HG := Lib.hid hg
  have HL2 := Lib.hid (HRL.out.below hb)
  have HB2 := Lib.hid (HB.out.trans (hb.mono HB.out.size))
  clear hg hb
  go_wp2_with (fail)
  go_loopg [11, 12] L.length (fun m s i wr => ∃ j : Nat, m + j = L.length ∧ i = .int .i64 j ∧ s = .int .i64 ((encL (L.take j)).length : Int) ∧ w2 = wr)
  case atStart => exact ⟨0, by omega, rfl, rfl, rfl⟩
  case round =>
    obtain ⟨j, hj, rfl, rfl, rfl⟩ := hrel
    by_cases hjl : j < L.length
    · obtain ⟨ad, rfl, X, x0, hcx, _⟩ := HL2.out.at j hjl
      have hsz := Lib.hid (encL_take L j hjl)
      have hle := enc_le _ (fun r hr => (HIN.out r (List.mem_of_mem_take (i := j) hr)).2)
      have hx20 := (HIN.out _ (List.getElem_mem hjl)).2
      have hle2 : (encL (L.take j)).length ≤ 252 := by
        have : (L.take j).length ≤ 12 := by simp; omega
        omega
      clear hle
      generalize L[j].length = x at *
      generalize (encL (L.take j)).length = z at *
      have hji : (j : Int) < (L.length : Int) := by omega
      have hj0 : (0 : Int) ≤ (j : Int) := by omega
      go_wp2_with (fail)
      go_roundg (L.length - (j + 1))
      case measure => omega
      case rel => exact ⟨j + 1, by omega, by go_num, by rw [hsz.out]; go_num, rfl⟩
    · obtain rfl : j = L.length := by omega
      rw [List.take_length]
      go_wp2_with (go_at_call 36; refine (recs_same L _ _ _ _ _ HG.out HL2.out).mono ?_; rintro e w3 ⟨rfl, hb⟩; have HB3 := Lib.hid (HB2.out.trans (hb.mono HB2.out.size)); clear hb)
      go_ret
      exact ⟨rfl, HB3.out⟩
end Go.Proofs.Ytjlihpbnhojdgaa.DiskBack
