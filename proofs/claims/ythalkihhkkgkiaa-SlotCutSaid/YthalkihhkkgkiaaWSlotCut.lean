/- The walk of SlotCut. -/
import Derived.Test.YthalkihhkkgkiaaSlots
namespace Go.Proofs.Ythalkihhkkgkiaa.SlotCut
open Go.RowKit Go.Proofs.Ythalkihhkkgkiaa.Base Go.Proofs.Ythalkihhkkgkiaa.Cell
set_option linter.unusedVariables false
set_option linter.unusedSimpArgs false
set_option maxRecDepth 20000
set_option maxHeartbeats 4000000 in
theorem walk (sz : Int) (recs : List (List UInt32)) (A : Option Addr) (q : Nat) (rec : List UInt32) (L : Option Addr) (d : Nat) (k : Int) (w : World) (wz : (Lit.int .i64 sz).wf = true) (hr : Open.RdR 1 (fun (xs : List UInt32) cs => ∃ A c, cs = [Value.slice A xs.length c] ∧ xs.length ≤ c ∧ Open.RdR 1 (fun (x : UInt32) cs => cs = encW x) w A xs) w A recs) (hl : RdE 1 encW w L rec) (wk : (Lit.int .i64 k).wf = true) :
    Calls Try.prog 4 #[.int .i64 sz, .slice A recs.length q, .slice L rec.length d, .int .i64 k] w fun e w' => e = .returned (.bool true) ∧ Below w.heap.size w w' := by
  have HK := Lib.hid (i64_bound wk)
  have RL := Lib.hid hl
  clear wk hl
  obtain ⟨s0, s1⟩ := i64_bound wz
  clear wz
  obtain ⟨p0, p1⟩ := pk_bound sz 20 (by omega)
  obtain ⟨m, hm⟩ : ∃ m : Nat, pk sz 20 = (m : Int) := ⟨(pk sz 20).toNat, by omega⟩
  have hp := fun w => picked_any sz 20 w s0 s1 (by omega)
  rw [hm] at hp p0 p1
  have HP := Lib.hid hp
  have RR := Lib.hid (RdS.of hr)
  clear hr hp hm s0 s1
  have e : ((m + 1 : Nat) : Int) = 1 + (m : Int) := by omega
  have hs := fun w hr => slots_any (m + 1) recs A q w hr (by omega) (by omega)
  rw [e] at hs
  have hld := fun c old B p w hc hh hq => load_any c old (m + 1) B p w hc hh (by omega) (by omega) hq
  rw [e] at hld
  have hft := fun l D d w hr => fitted_any l (m + 1) D d w hr (by omega)
  rw [e] at hft
  have HS := Lib.hid hs
  have HLD := Lib.hid hld
  have HFT := Lib.hid hft
  clear hs hld hft e
  obtain ⟨n, hn⟩ : ∃ n, n = m + 1 := ⟨_, rfl⟩
  rw [← hn] at HS HLD HFT
  have hn0 : 1 ≤ n := by omega
  have hn1 : n ≤ 64 := by omega
  clear hn
  have HB : Hid (Below w.heap.size w w) := Lib.hid (Below.refl _ _)
  go_enter Try.func4, Try.ntmps4
  go_wp2_with (fail)
  go_at_call 11
  refine (HP.out _).mono ?_
  rintro e w' ⟨rfl, rfl⟩
  go_wp2_with (fail)
  go_at_call 12
  refine (HS.out _ RR.out).mono ?_
  rintro e w1 ⟨B, p, C, r, c, old, rfl, hh, hoc, hoo, hb⟩
  replace HB : Hid (Below w.heap.size w w1) := Lib.hid (below_then' HB.out hb)
  replace RR := Lib.hid (RR.out.below hb)
  replace RL := Lib.hid (RL.out.below hb)
  have hpc := Lib.hid (own_cap hoc)
  have RC := Lib.hid (OwW.read hoc)
  have RO := Lib.hid (OwW.read hoo)
  have HH := Lib.hid hh
  clear hoc hoo hh
  clear hb
  have hfl := Lib.hid (fitL_len rec n)
  have HFR := Lib.hid (HFT.out rec L d)
  generalize fitL rec n = rc at *
  go_wp2_with (fail)
  go_at_call 15
  refine (HFR.out _ RL.out).mono ?_
  rintro e w2 ⟨F, f, rfl, ho, hb⟩
  replace HB : Hid (Below w.heap.size w w2) := Lib.hid (below_then' HB.out hb)
  replace RC := Lib.hid (RC.out.below hb)
  replace RO := Lib.hid (RO.out.below hb)
  have RF := Lib.hid (OwW.read ho)
  clear ho
  clear hb RL
  obtain ⟨sl, hsl, _⟩ := HH.out.slot
  have hs2 := newer_lt hsl
  have HST := Lib.hid (fun w hc hr => store_any c old rc n sl B F p f w hc hr HH.out hsl hn0 hn1 hfl.out)
  have hwl := Lib.hid (storeW_len n sl (markN c n sl) rc)
  have hwi := Lib.hid (storeW_in n sl (markN c n sl) hs2 rc hfl.out)
  have hall := Lib.hid (store_all HH.out hsl hfl.out)
  have hcut := Lib.hid (fun k hk => (store_cut (k := k) HH.out hsl hfl.out hk).1)
  have hcl := Lib.hid HH.out.len
  clear hsl
  generalize storeW n sl (markN c n sl) rc = ws at *
  go_wp2_with (fail)
  go_at_call 16
  refine (HST.out _ RC.out RF.out).mono ?_
  rintro e w3 ⟨G, g, rfl, ho, hb⟩
  replace HB : Hid (Below w.heap.size w w3) := Lib.hid (below_then' HB.out hb)
  replace RC := Lib.hid (RC.out.below hb)
  replace RO := Lib.hid (RO.out.below hb)
  replace RF := Lib.hid (RF.out.below hb)
  have RG := Lib.hid (OwWr.read ho)
  have hgc := own_cap ho
  clear ho
  clear hb 
  have hwl2 := hwl.out
  have hfl2 := hfl.out
  obtain ⟨k0, k1⟩ := HK.out
  obtain ⟨j0, j1⟩ := pk_bound k ((ws.length : Int) + 1) (by omega)
  have HPK := Lib.hid (fun w => picked_any k ((ws.length : Int) + 1) w k0 k1 (by omega))
  obtain ⟨cut, hcu⟩ : ∃ cut : Nat, pk k ((ws.length : Int) + 1) = (cut : Int) := ⟨(pk k ((ws.length : Int) + 1)).toNat, by omega⟩
  rw [hcu] at HPK j1
  have hcl2 := hcl.out
  have HAP := Lib.hid (fun w hc hw => apply_any c ws cut (cut : Int) B G p g w hc hw (by omega) (by omega) (by omega) hgc (by rw [hcl2]; exact hwi.out) rfl (by omega))
  have hz1 : (0 : Int) < (ws.length : Int) := by omega
  have hz2 : ((ws.length : Int) == 0) = false := beq_eq_false_iff_ne.mpr (by omega)
  have hz3 : (ws.length == 0) = false := beq_eq_false_iff_ne.mpr (by omega)
  have hlim : cut < n + 2 ∨ cut = ws.length := by omega
  have HLIM := Lib.hid hlim
  have hwl3 : ws.length ≤ 66 := by omega
  clear hwl2 hfl2 hcl2 hcu j0 k0 k1 hlim
  go_wp2_with (fail)
  go_at_call 11
  refine (HPK.out _).mono ?_
  rintro e w' ⟨rfl, rfl⟩
  go_wp2_with (fail)
  go_at_call 17
  refine (HAP.out _ RC.out RG.out).mono ?_
  rintro e w4 ⟨E, h, rfl, ho, hb⟩
  replace HB : Hid (Below w.heap.size w w4) := Lib.hid (below_then' HB.out hb)
  replace RC := Lib.hid (RC.out.below hb)
  replace RO := Lib.hid (RO.out.below hb)
  replace RF := Lib.hid (RF.out.below hb)
  replace RG := Lib.hid (RG.out.below hb)
  have RE := Lib.hid (OwW.read ho)
  have hec := own_cap ho
  clear ho
  clear hb 
  by_cases hc : cut < ws.length
  · have hci : (cut : Int) < (ws.length : Int) := by omega
    have hold := Lib.hid (hcut.out cut (by have := hwl.out; have := hfl.out; omega))
    have hce := Lib.hid hec
    clear hec
    generalize applyL c (ws.take cut) = c2 at *
    go_wp2_with (fail)
    go_at_call 13
    refine (HLD.out c2 old _ _ _ RE.out hold.out hce.out).mono ?_
    rintro e w5 ⟨I, i, rfl, ho, hb⟩
    replace HB : Hid (Below w.heap.size w w5) := Lib.hid (below_then' HB.out hb)
    replace RC := Lib.hid (RC.out.below hb)
    replace RO := Lib.hid (RO.out.below hb)
    replace RF := Lib.hid (RF.out.below hb)
    replace RG := Lib.hid (RG.out.below hb)
    replace RE := Lib.hid (RE.out.below hb)
    have RI := Lib.hid (OwW.read ho)
    clear ho
    clear hb 
    go_wp2_with (go_at_call 14; refine (same_any _ _ _ _ _ _ _ RI.out RO.out).mono ?_; rintro e w9 ⟨rfl, n9, rfl⟩; rw [decide_eq_true rfl])
    go_ret
    exact ⟨rfl, blw_step HB.out _⟩
  · have hci : ¬ (cut : Int) < (ws.length : Int) := by omega
    have hold := Lib.hid (show Holds (applyL c (ws.take cut)) n rc by rw [List.take_of_length_le (by omega)]; exact hall.out)
    have hce := Lib.hid hec
    clear hec
    generalize applyL c (ws.take cut) = c2 at *
    go_wp2_with (fail)
    go_at_call 13
    refine (HLD.out c2 rc _ _ _ RE.out hold.out hce.out).mono ?_
    rintro e w5 ⟨I, i, rfl, ho, hb⟩
    replace HB : Hid (Below w.heap.size w w5) := Lib.hid (below_then' HB.out hb)
    replace RC := Lib.hid (RC.out.below hb)
    replace RO := Lib.hid (RO.out.below hb)
    replace RF := Lib.hid (RF.out.below hb)
    replace RG := Lib.hid (RG.out.below hb)
    replace RE := Lib.hid (RE.out.below hb)
    have RI := Lib.hid (OwW.read ho)
    clear ho
    clear hb 
    go_wp2_with (go_at_call 14; refine (same_any _ _ _ _ _ _ _ RI.out RF.out).mono ?_; rintro e w9 ⟨rfl, n9, rfl⟩; rw [decide_eq_true rfl])
    go_ret
    exact ⟨rfl, blw_step HB.out _⟩
end Go.Proofs.Ythalkihhkkgkiaa.SlotCut
