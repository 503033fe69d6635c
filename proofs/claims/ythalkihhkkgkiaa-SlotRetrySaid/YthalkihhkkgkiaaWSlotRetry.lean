/- The walk of SlotRetry. -/
import Derived.Test.YthalkihhkkgkiaaSlots
namespace Go.Proofs.Ythalkihhkkgkiaa.SlotRetry
open Go.RowKit Go.Proofs.Ythalkihhkkgkiaa.Base Go.Proofs.Ythalkihhkkgkiaa.Cell
set_option linter.unusedVariables false
set_option linter.unusedSimpArgs false
set_option maxRecDepth 20000
set_option maxHeartbeats 4000000 in
theorem walk (sz : Int) (recs : List (List UInt32)) (A : Option Addr) (q : Nat) (cuts : List Int) (U : Option Addr) (u : Nat) (rec : List UInt32) (L : Option Addr) (d : Nat) (w : World) (wz : (Lit.int .i64 sz).wf = true) (hr : Open.RdR 1 (fun (xs : List UInt32) cs => ∃ A c, cs = [Value.slice A xs.length c] ∧ xs.length ≤ c ∧ Open.RdR 1 (fun (x : UInt32) cs => cs = encW x) w A xs) w A recs) (hu : RdE 1 encI w U cuts) (hq : ∀ x ∈ cuts, (Lit.int .i64 x).wf = true) (hl : RdE 1 encW w L rec) :
    Calls Try.prog 5 #[.int .i64 sz, .slice A recs.length q, .slice U cuts.length u, .slice L rec.length d] w fun e w' => e = .returned (.bool true) ∧ Below w.heap.size w w' := by
  have hmu := hu.1
  have HQ := Lib.hid (fun x hx => i64_bound (hq x hx))
  have RU := Lib.hid hu
  have RL := Lib.hid hl
  clear hu hl hq
  obtain ⟨s0, s1⟩ := i64_bound wz
  clear wz
  obtain ⟨p0, p1⟩ := pk_bound sz 20 (by omega)
  obtain ⟨m, hm⟩ : ∃ m : Nat, pk sz 20 = (m : Int) := ⟨(pk sz 20).toNat, by omega⟩
  have hp := fun w => picked_any sz 20 w s0 s1 (by omega)
  rw [hm] at hp p0 p1
  have HP := Lib.hid hp
  have RR := Lib.hid (RdS.of hr)
  clear hr hp hm s0 s1
  have e : ((m + 1 : Nat) : Int) = 1 + (m : Int) := by omega
  have hs := fun w hr => slots_any (m + 1) recs A q w hr (by omega) (by omega)
  rw [e] at hs
  have hld := fun c old B p w hc hh hq => load_any c old (m + 1) B p w hc hh (by omega) (by omega) hq
  rw [e] at hld
  have hft := fun l D d w hr => fitted_any l (m + 1) D d w hr (by omega)
  rw [e] at hft
  have HS := Lib.hid hs
  have HLD := Lib.hid hld
  have HFT := Lib.hid hft
  clear hs hld hft e
  obtain ⟨n, hn⟩ : ∃ n, n = m + 1 := ⟨_, rfl⟩
  rw [← hn] at HS HLD HFT
  have hn0 : 1 ≤ n := by omega
  have hn1 : n ≤ 64 := by omega
  clear hn
  have HB : Hid (Below w.heap.size w w) := Lib.hid (Below.refl _ _)
  go_enter Try.func5, Try.ntmps5
  go_wp2_with (fail)
  go_at_call 11
  refine (HP.out _).mono ?_
  rintro e w' ⟨rfl, rfl⟩
  go_wp2_with (fail)
  go_at_call 12
  refine (HS.out _ RR.out).mono ?_
  rintro e w1 ⟨B, p, C, r, c, old, rfl, hh, hoc, hoo, hb⟩
  replace HB : Hid (Below w.heap.size w w1) := Lib.hid (below_then' HB.out hb)
  replace RR := Lib.hid (RR.out.below hb)
  replace RU := Lib.hid (RU.out.below hb)
  replace RL := Lib.hid (RL.out.below hb)
  have hpc := Lib.hid (own_cap hoc)
  have RC := Lib.hid (OwW.read hoc)
  have RO := Lib.hid (OwW.read hoo)
  have HH := Lib.hid hh
  clear hoc hoo hh
  clear hb
  have hfl := Lib.hid (fitL_len rec n)
  have HFR := Lib.hid (HFT.out rec L d)
  generalize fitL rec n = rc at *
  have hpp := hpc.out
  go_wp2_with (fail)
  obtain ⟨w1, rfl⟩ : ∃ wo : World, wo = w1 := ⟨_, rfl⟩
  go_loopg [10, 13] cuts.length (fun mm b i wr => ∃ (k : Nat) (c : List UInt32) (B : Option Addr) (p : Nat), mm + k = cuts.length ∧ k ≤ 10 ∧ i = .int .i64 k ∧ b = .slice B c.length p ∧ c.length ≤ p ∧ Holds c n old ∧ RdE 1 encW wr B c ∧ RdE 1 encW wr C old ∧ RdE 1 encW wr L rec ∧ RdE 1 encI wr U cuts ∧ Below w.heap.size w wr)
  case atStart => exact ⟨0, c, B, p, by omega, by omega, rfl, rfl, hpp, HH.out, RC.out, RO.out, RL.out, RU.out, HB.out⟩
  case round =>
    clear HB RC RO RL RU HH hpc hpp
    obtain ⟨k, c, B, p, hk, hk10, rfl, rfl, hpp, hh, rc0, ro0, rl0, ru0, hbl⟩ := hrel
    have HB := Lib.hid hbl
    have RC := Lib.hid rc0
    have RO := Lib.hid ro0
    have RL := Lib.hid rl0
    have RU := Lib.hid ru0
    have HH := Lib.hid hh
    have hpc := Lib.hid hpp
    clear hbl rc0 ro0 rl0 ru0 hh hpp
    by_cases hlt : k < cuts.length ∧ k < 10
    · obtain ⟨h1, h2⟩ := hlt
      have hki : (k : Int) < (cuts.length : Int) := by omega
      have hk0 : (0 : Int) ≤ (k : Int) := by omega
      have hk1 : (k : Int) < 10 := by omega
      go_wp2_with (fail)
      go_at_call 15
      refine (HFR.out _ RL.out).mono ?_
      rintro e v1 ⟨F, f, rfl, ho, hb⟩
      replace HB : Hid (Below w.heap.size w v1) := Lib.hid (below_then' HB.out hb)
      replace RC := Lib.hid (RC.out.below hb)
      replace RO := Lib.hid (RO.out.below hb)
      replace RL := Lib.hid (RL.out.below hb)
      replace RU := Lib.hid (RU.out.below hb)
      have RF := Lib.hid (OwW.read ho)
      clear ho
      clear hb 
      obtain ⟨sl, hsl, _⟩ := HH.out.slot
      have hs2 := newer_lt hsl
      have HST := Lib.hid (fun w hc hr => store_any c old rc n sl B F p f w hc hr HH.out hsl hn0 hn1 hfl.out)
      have hwl := Lib.hid (storeW_len n sl (markN c n sl) rc)
      have hwi := Lib.hid (storeW_in n sl (markN c n sl) hs2 rc hfl.out)
      have hall := Lib.hid (store_all HH.out hsl hfl.out)
      have hcut := Lib.hid (fun k hk => (store_cut (k := k) HH.out hsl hfl.out hk).1)
      have hcl := Lib.hid HH.out.len
      clear hsl
      generalize storeW n sl (markN c n sl) rc = ws at *
      go_wp2_with (fail)
      go_at_call 16
      refine (HST.out _ RC.out RF.out).mono ?_
      rintro e v2 ⟨G, g, rfl, ho, hb⟩
      replace HB : Hid (Below w.heap.size w v2) := Lib.hid (below_then' HB.out hb)
      replace RC := Lib.hid (RC.out.below hb)
      replace RO := Lib.hid (RO.out.below hb)
      replace RL := Lib.hid (RL.out.below hb)
      replace RU := Lib.hid (RU.out.below hb)
      replace RF := Lib.hid (RF.out.below hb)
      have RG := Lib.hid (OwWr.read ho)
      have hgc := Lib.hid (own_cap ho)
      clear ho
      clear hb 
      obtain ⟨ad, hU, hcell⟩ := RU.out.at1 k h1 _ rfl
      subst hU
      obtain ⟨x0, x1⟩ := HQ.out _ (List.getElem_mem h1)
      generalize cuts[k] = x at *
      have hwl2 := hwl.out
      have hfl2 := hfl.out
      have hcl2 := hcl.out
      have hgc2 := hgc.out
      obtain ⟨j0, j1⟩ := pk_bound x (ws.length : Int) (by omega)
      have HPK := Lib.hid (fun w => picked_any x (ws.length : Int) w x0 x1 (by omega))
      obtain ⟨cut, hcu⟩ : ∃ cut : Nat, pk x (ws.length : Int) = (cut : Int) := ⟨(pk x (ws.length : Int)).toNat, by omega⟩
      rw [hcu] at HPK j1
      have HAP := Lib.hid (fun w hc hw => apply_any c ws cut (cut : Int) B G p g w hc hw (by omega) (by omega) (by omega) hgc2 (by rw [hcl2]; exact hwi.out) rfl (by omega))
      have hz1 : (0 : Int) < (ws.length : Int) := by omega
      have hz2 : ((ws.length : Int) == 0) = false := beq_eq_false_iff_ne.mpr (by omega)
      have hz3 : (ws.length == 0) = false := beq_eq_false_iff_ne.mpr (by omega)
      have hold := Lib.hid (hcut.out cut (by omega))
      have hwl3 : ws.length ≤ 66 := by omega
      clear hwl2 hfl2 hcl2 hgc2 hcu j0
      go_wp2_with (fail)
      go_at_call 11
      refine (HPK.out _).mono ?_
      rintro e w' ⟨rfl, rfl⟩
      clear hcell
      go_wp2_with (fail)
      go_at_call 17
      refine (HAP.out _ RC.out RG.out).mono ?_
      rintro e v3 ⟨E, h, rfl, ho, hb⟩
      replace HB : Hid (Below w.heap.size w v3) := Lib.hid (below_then' HB.out hb)
      replace RC := Lib.hid (RC.out.below hb)
      replace RO := Lib.hid (RO.out.below hb)
      replace RL := Lib.hid (RL.out.below hb)
      replace RU := Lib.hid (RU.out.below hb)
      have RE := Lib.hid (OwW.read ho)
      have hec := Lib.hid (own_cap ho)
      clear ho
      clear hb RG RF
      generalize applyL c (ws.take cut) = c2 at *
      go_wp2_with (fail)
      go_at_call 13
      refine (HLD.out c2 old _ _ _ RE.out hold.out hec.out).mono ?_
      rintro e v4 ⟨I, i, rfl, ho, hb⟩
      replace HB : Hid (Below w.heap.size w v4) := Lib.hid (below_then' HB.out hb)
      replace RC := Lib.hid (RC.out.below hb)
      replace RO := Lib.hid (RO.out.below hb)
      replace RL := Lib.hid (RL.out.below hb)
      replace RU := Lib.hid (RU.out.below hb)
      replace RE := Lib.hid (RE.out.below hb)
      have RI := Lib.hid (OwW.read ho)
      clear ho
      clear hb 
      go_wp2_with (fail)
      go_at_call 14
      refine (same_any _ _ _ _ _ _ _ RI.out RO.out).mono ?_
      rintro e v5 ⟨rfl, n5, rfl⟩
      rw [decide_eq_true rfl]
      go_wp2_with (fail)
      go_roundg (cuts.length - (k + 1))
      case measure => omega
      case rel => exact ⟨k + 1, c2, E, h, by omega, by omega, by go_num, rfl, hec.out, hold.out, RE.out.below (blw_drewN _ _ _), RO.out.below (blw_drewN _ _ _), RL.out.below (blw_drewN _ _ _), RU.out.below (blw_drewN _ _ _), blw_step HB.out _⟩
    · have hk0 : (0 : Int) ≤ (k : Int) := by omega
      by_cases h1 : k < cuts.length
      all_goals
        go_wp2_with (fail)
        go_at_call 15
        refine (HFR.out _ RL.out).mono ?_
        rintro e v1 ⟨F, f, rfl, ho, hb⟩
        replace HB : Hid (Below w.heap.size w v1) := Lib.hid (below_then' HB.out hb)
        replace RC := Lib.hid (RC.out.below hb)
        replace RL := Lib.hid (RL.out.below hb)
        have RF := Lib.hid (OwW.read ho)
        clear ho
        clear hb 
        obtain ⟨sl, hsl, _⟩ := HH.out.slot
        have hs2 := newer_lt hsl
        have HST := Lib.hid (fun w hc hr => store_any c old rc n sl B F p f w hc hr HH.out hsl hn0 hn1 hfl.out)
        have hwl := Lib.hid (storeW_len n sl (markN c n sl) rc)
        have hwi := Lib.hid (storeW_in n sl (markN c n sl) hs2 rc hfl.out)
        have hall := Lib.hid (store_all HH.out hsl hfl.out)
        have hcut := Lib.hid (fun k hk => (store_cut (k := k) HH.out hsl hfl.out hk).1)
        have hcl := Lib.hid HH.out.len
        clear hsl
        generalize storeW n sl (markN c n sl) rc = ws at *
        go_wp2_with (fail)
        go_at_call 16
        refine (HST.out _ RC.out RF.out).mono ?_
        rintro e v2 ⟨G, g, rfl, ho, hb⟩
        replace HB : Hid (Below w.heap.size w v2) := Lib.hid (below_then' HB.out hb)
        replace RC := Lib.hid (RC.out.below hb)
        replace RL := Lib.hid (RL.out.below hb)
        replace RF := Lib.hid (RF.out.below hb)
        have RG := Lib.hid (OwWr.read ho)
        have hgc := Lib.hid (own_cap ho)
        clear ho
        clear hb 
        have hwl2 := hwl.out
        have hfl2 := hfl.out
        have hcl2 := hcl.out
        have HAP := Lib.hid (fun w hc hw => apply_all c ws B G p g w hc hw (by omega) (by omega) (by omega) hgc.out (by rw [hcl2]; exact hwi.out))
        clear hwl2 hfl2 hcl2
        go_wp2_with (fail)
        go_at_call 17
        refine (HAP.out _ RC.out RG.out).mono ?_
        rintro e v3 ⟨E, h, rfl, ho, hb⟩
        replace HB : Hid (Below w.heap.size w v3) := Lib.hid (below_then' HB.out hb)
        replace RC := Lib.hid (RC.out.below hb)
        replace RL := Lib.hid (RL.out.below hb)
        replace RF := Lib.hid (RF.out.below hb)
        have RE := Lib.hid (OwW.read ho)
        have hec := Lib.hid (own_cap ho)
        clear ho
        clear hb RG
        generalize applyL c ws = c2 at *
        go_wp2_with (fail)
        go_at_call 13
        refine (HLD.out c2 rc _ _ _ RE.out hall.out hec.out).mono ?_
        rintro e v4 ⟨I, i, rfl, ho, hb⟩
        replace HB : Hid (Below w.heap.size w v4) := Lib.hid (below_then' HB.out hb)
        replace RC := Lib.hid (RC.out.below hb)
        replace RL := Lib.hid (RL.out.below hb)
        replace RF := Lib.hid (RF.out.below hb)
        replace RE := Lib.hid (RE.out.below hb)
        have RI := Lib.hid (OwW.read ho)
        clear ho
        clear hb 
        go_wp2_with (go_at_call 14; refine (same_any _ _ _ _ _ _ _ RI.out RF.out).mono ?_; rintro e w9 ⟨rfl, n9, rfl⟩; rw [decide_eq_true rfl])
        go_ret
        exact ⟨rfl, blw_step HB.out _⟩
end Go.Proofs.Ythalkihhkkgkiaa.SlotRetry
