/- The walk of DiskRetry. -/
import Derived.Test.YtjlihpbnhojdgaaTape2
import Derived.Deep.Cut
namespace Go.Proofs.Ytjlihpbnhojdgaa.DiskRetry
open Go.RowKit Go.Proofs.Ytjlihpbnhojdgaa.Base Go.Proofs.Ytjlihpbnhojdgaa.Cell
set_option linter.unusedVariables false
set_option linter.unusedSimpArgs false
set_option maxRecDepth 20000
set_option maxHeartbeats 8000000 in
theorem walk (recs : List (List UInt32)) (A : Option Addr) (q : Nat) (torn : List (List UInt32)) (T : Option Addr) (tq : Nat) (cuts : List Int) (U : Option Addr) (uq : Nat) (rec : List UInt32) (R : Option Addr) (d : Nat) (w : World) (hr : Open.RdR 1 (fun (xs : List UInt32) cs => ∃ A c, cs = [Value.slice A xs.length c] ∧ xs.length ≤ c ∧ Open.RdR 1 (fun (x : UInt32) cs => cs = encW x) w A xs) w A recs) (ht0 : Open.RdR 1 (fun (xs : List UInt32) cs => ∃ A c, cs = [Value.slice A xs.length c] ∧ xs.length ≤ c ∧ Open.RdR 1 (fun (x : UInt32) cs => cs = encW x) w A xs) w T torn) (hu : RdE 1 encI w U cuts) (hcq : ∀ x ∈ cuts, (Lit.int .i64 x).wf = true) (hl : RdE 1 encW w R rec) :
    Calls Try.prog 14 #[.slice A recs.length q, .slice T torn.length tq, .slice U cuts.length uq, .slice R rec.length d] w fun e w' => e = .returned (.bool true) ∧ Below w.heap.size w w' := by
  have hrs := RdS.of hr
  have hmx := hrs.1
  have HRS := Lib.hid hrs
  have htn := RdS.of ht0
  have hmt := htn.1
  have HTN := Lib.hid htn
  have hmu := hu.1
  have HU := Lib.hid hu
  have HCQ := Lib.hid (fun x hx => i64_bound (hcq x hx))
  have HR := Lib.hid hl
  have HSM := Lib.hid (fun w hr => some_few rec 20 20 R d w hr rfl (by omega) (by omega))
  obtain ⟨r0, r1⟩ := some_len rec 20 (by omega)
  have htp := fun w hr => tape_any recs 25 A q w hr (by omega) (by omega)
  have HTP := Lib.hid htp
  clear hr hrs hl htp ht0 htn hu hcq
  generalize someL rec 20 = y at *
  go_enter Try.func14, Try.ntmps14
  go_wp2_with (fail)
  go_at_call 31
  refine (HTP.out _ HRS.out).mono ?_
  rintro e w1 ⟨k1, B, p, c, D, r, hk1, rfl, hcl, hc0, hc1, hcp, ht, hrc, hos, hb⟩
  have HB := Lib.hid hb
  have HT := Lib.hid ht
  have RC := Lib.hid hrc
  have HO := Lib.hid hos
  have hle := enc_le _ (fun r hr => (tapeL_in recs k1 r hr).2)
  have hln := tapeL_len recs k1 (by omega)
  have HLN := Lib.hid hln
  have HIN := Lib.hid (tapeL_in recs k1)
  have hlb : (tapeL recs k1).length ≤ 12 := by omega
  have HCL := Lib.hid hcl
  have HCP := Lib.hid hcp
  have HK1 := Lib.hid hk1
  clear hb ht hrc hos hcl hcp hk1 hle hln
  generalize tapeL recs k1 = L at *
  obtain ⟨N, hN⟩ : ∃ N, N = c.length := ⟨_, rfl⟩
  have HN := Lib.hid (show N = (encL L).length + 25 by rw [hN]; exact HCL.out)
  have HN2 := Lib.hid hN.symm
  have hN1 : N ≤ 2048 := by omega
  have hN0 : 26 ≤ N ∨ 25 ≤ N := by have := HN.out; omega
  clear hN
  go_wp2_with (fail)
  obtain ⟨w1, rfl⟩ : ∃ wo : World, wo = w1 := ⟨_, rfl⟩
  go_loopg [9, 12] torn.length (fun m b i wr => ∃ (k : Nat) (c : List UInt32) (B : Option Addr) (p : Nat), m + k = torn.length ∧ k ≤ 8 ∧ i = .int .i64 k ∧ b = .slice B c.length p ∧ c.length = N ∧ c.length ≤ p ∧ Cell.Tape c L ∧ RdE 1 encW wr B c ∧ OwS w.heap.size wr (.slice D L.length r) L ∧ Below w.heap.size w wr)
  case atStart => exact ⟨0, c, B, p, by omega, by omega, rfl, rfl, HN2.out, HCP.out, HT.out, RC.out, HO.out, HB.out⟩
  case round =>
    clear HB HT RC HO HCL HCP hc0 hc1 HN2
    obtain ⟨k, c, B, p, hk, hk8, rfl, rfl, hcl, hcp, htc, hrc, hos, hbl⟩ := hrel
    have HB := Lib.hid hbl
    have HT := Lib.hid htc
    have RC := Lib.hid hrc
    have HO := Lib.hid hos
    have HCL := Lib.hid hcl
    have HCP := Lib.hid hcp
    clear hbl htc hrc hos hcl hcp
    by_cases hlt : k < torn.length ∧ k < 8
    · obtain ⟨h1, h2⟩ := hlt
      obtain ⟨ad, rfl, X, x0, hcx, hrx⟩ := (HTN.out.below HB.out).at k h1
      obtain ⟨x, hx⟩ : ∃ x, x = torn[k] := ⟨_, rfl⟩
      rw [← hx] at hrx hcx
      have HS := Lib.hid (some_few x 20 20 X x0 wr hrx rfl (by omega) (by omega))
      obtain ⟨t0, t1⟩ := some_len x 20 (by omega)
      have hki : (k : Int) < (torn.length : Int) := by omega
      have hk0 : (0 : Int) ≤ (k : Int) := by omega
      have hk1 : (k : Int) < 8 := by omega
      clear hx hrx
      generalize someL x 20 = z at *
      go_wp2_with (fail)
      go_at_call 20
      refine HS.out.mono ?_
      rintro e v1 ⟨F, f, rfl, ho, hb⟩
      have RF := Lib.hid (OwW.read ho)
      have RC2 := Lib.hid (RC.out.below hb)
      have HO2 := Lib.hid (HO.out.after hb)
      have HB2 := Lib.hid (HB.out.trans (hb.mono HB.out.size))
      clear ho hb hcx HO RC HB
      have hcl0 := HCL.out
      have hlim : (encL L).length + 1 + z.length ≤ c.length := by have := HN.out; omega
      have HAY := Lib.hid (append_yes c z L B F p f v1 RC2.out RF.out HT.out (by omega) (by omega) HCP.out t0 (by omega) hlim)
      obtain ⟨l0, l1⟩ := appendW_len c.length (encL L).length z
      have hin := Lib.hid (appendW_in c.length (encL L).length z hlim)
      have hct := Lib.hid (fun j hj => append_cut HT.out z j hj)
      generalize appendW c.length (encL L).length z = ws at *
      clear hcl0
      go_wp2_with (fail)
      go_at_call 32
      refine HAY.out.mono ?_
      rintro e v2 ⟨G, g, rfl, ho, hb⟩
      have RG := Lib.hid ho
      have hgc := Lib.hid (own_cap ho)
      have RC3 := Lib.hid (RC2.out.below hb)
      have HO3 := Lib.hid (HO2.out.after hb)
      have HB3 := Lib.hid (HB2.out.trans (hb.mono HB2.out.size))
      clear ho hb HO2 RC2 HB2 RF HAY
      have hz1 : ((ws.length : Int) == 0) = false := beq_eq_false_iff_ne.mpr (by omega)
      have hz2 : (ws.length == 0) = false := beq_eq_false_iff_ne.mpr (by omega)
      go_upto_if 64 with fail
      go_cut [15] (fun v wx => ∃ cut : Nat, v = .int .i64 (cut : Int) ∧ cut < ws.length ∧ wx = v2)
      case first =>
        by_cases hcu : k < cuts.length
        · obtain ⟨ad', rfl, hcell⟩ := (HU.out.below HB3.out).at1 k hcu _ rfl
          obtain ⟨k0, k2⟩ := HCQ.out _ (List.getElem_mem hcu)
          generalize cuts[k] = u at *
          obtain ⟨j0, j1⟩ := pk_bound u (ws.length : Int) (by omega)
          have HPK := Lib.hid (fun w => picked_any u (ws.length : Int) w k0 k2 (by omega))
          obtain ⟨cut, hcc⟩ : ∃ cut : Nat, pk u (ws.length : Int) = (cut : Int) := ⟨(pk u (ws.length : Int)).toNat, by omega⟩
          rw [hcc] at HPK j1
          have hkc : (k : Int) < (cuts.length : Int) := by omega
          clear hcc j0
          go_wp2_with (go_at_call 15; refine (HPK.out _).mono ?_; rintro e w' ⟨rfl, rfl⟩)
          go_meet
          case rel => exact ⟨cut, rfl, by omega, rfl⟩
        · have hkc : ¬ (k : Int) < (cuts.length : Int) := by omega
          go_wp2_with fail
          go_meet
          case rel => exact ⟨ws.length - 1, by first | rfl | (rw [show (((ws.length - 1 : Nat)) : Int) = (ws.length : Int) - 1 by omega]), by omega, rfl⟩
      case rest =>
        obtain ⟨cut, rfl, hcut2, rfl⟩ := hcut
        obtain ⟨v2, rfl⟩ : ∃ wo : World, wo = wc := ⟨_, rfl⟩
        have hgc2 := hgc.out
        have hcl0 := HCL.out
        have HAP := Lib.hid (fun w hc hw => apply_any c ws cut (cut : Int) B G p g w hc hw (by omega) (by omega) (by omega) hgc2 (fun x hx => (hin.out x hx).2) rfl (by omega))
        have hcl2 := Lib.hid (applyL_len (ws.take cut) c)
        have hT2 := Lib.hid (hct.out cut hcut2)
        clear hgc2 hcl0
        generalize applyL c (ws.take cut) = c2 at *
        go_wp2_with (fail)
        go_at_call 37
        refine (HAP.out _ RC3.out (OwWr.read RG.out)).mono ?_
        rintro e v3 ⟨E, h, rfl, ho, hb⟩
        have RE := Lib.hid (OwW.read ho)
        have hec := Lib.hid (own_cap ho)
        have HO4 := Lib.hid (HO3.out.after hb)
        have HB4 := Lib.hid (HB3.out.trans (hb.mono HB3.out.size))
        clear ho hb
        go_wp2_with (fail)
        go_roundg (torn.length - (k + 1))
        case measure => omega
        case rel => exact ⟨k + 1, c2, E, h, by omega, by omega, by go_num, rfl, by rw [hcl2.out]; exact HCL.out, hec.out, hT2.out, RE.out, HO4.out, HB4.out⟩
    · have hcl0 := HCL.out
      have hlim : (encL L).length + 1 + y.length ≤ c.length := by have := HN.out; omega
      have hon : ∀ z, (Value.slice D L.length r).ownBlock = some z → z < wr.heap.size := by
        obtain ⟨vs0, hown0, _⟩ := HO.out
        intro z hz
        exact (hown0.lt z hz).2
      have HON := Lib.hid hon
      have hcz : 1 ≤ c.length ∧ c.length ≤ 2048 := by omega
      clear hon hcl0
      by_cases h1 : k < torn.length
      all_goals
        have hk0 : (0 : Int) ≤ (k : Int) := by omega
        go_wp2_with (fail)
        go_at_call 20
        refine (HSM.out _ (HR.out.below HB.out)).mono ?_
        rintro e v1 ⟨F, f, rfl, ho, hb⟩
        obtain ⟨g0, rfl, hg0, hg1⟩ := own_addr ho (by omega)
        have RF := Lib.hid (OwW.read ho)
        have RC2 := Lib.hid (RC.out.below hb)
        have HO2 := Lib.hid (HO.out.after hb)
        have HB2 := Lib.hid (HB.out.trans (hb.mono HB.out.size))
        have hs1 := hb.size
        clear ho hb
        have HPT := Lib.hid (put_any c y L B (some ⟨g0, 0, none⟩) p f v1 RC2.out RF.out HT.out hcz.1 hcz.2 HCP.out r0 (by omega) hlim)
        go_wp2_with (fail)
        go_at_call 38
        refine HPT.out.mono ?_
        rintro e v2 ⟨E, h, c2, rfl, hl2, ht2, ho, hb⟩
        have RE := Lib.hid (OwW.read ho)
        have hec := own_cap ho
        have HRP := Lib.hid (replay_own c2 (L ++ [y]) E h v2 RE.out ht2 (by omega) (by omega) hec (by simp; omega))
        have RF2 := Lib.hid (RF.out.below hb)
        have HO3 := Lib.hid (HO2.out.after hb)
        have HB3 := Lib.hid (HB2.out.trans (hb.mono HB2.out.size))
        have hs2 := hb.size
        clear ho hb hl2 ht2 hec
        obtain ⟨l2, hl2⟩ : ∃ l2, l2 = L ++ [y] := ⟨_, rfl⟩
        rw [← hl2] at HRP
        have HL2 := Lib.hid hl2
        clear hl2
        go_wp2_with (fail)
        go_at_call 35
        refine HRP.out.mono ?_
        rintro e v3 ⟨X, x, rfl, hg, hb⟩
        have HX3 := Lib.hid hg
        have RF3 := Lib.hid (RF2.out.below hb)
        have HO4 := Lib.hid (HO3.out.after hb)
        have HB4 := Lib.hid (HB3.out.trans (hb.mono HB3.out.size))
        have hs3 := hb.size
        clear hg hb
        obtain ⟨vs, hown, hvl, hvx⟩ := HO4.out
        have HOW := Lib.hid hown
        have HVX := Lib.hid hvx
        have HVL := Lib.hid hvl
        have hbase := HB4.out.size
        clear hown hvx hvl
        go_wp2_with (at_builtin; refine app1G w.heap.size (by rfl) (.tmp 102) (.tmp 104) 66 36 (.slice none 0 0) 1 24 rfl Try.underlying66 info_sw rfl (by decide) (by decide) _ _ _ [.slice (some ⟨g0, 0, none⟩) y.length f] rfl rfl rfl ?c1 HOW.out hbase ?c2 ?_; (case c1 => intro u hu; simp at hu; subst hu; rfl); (case c2 => omega); intro v4 w6 ho1 hg1' hat1; have HO6 := Lib.hid ho1; have HG6 := Lib.hid hg1'; have HA6 := Lib.hid hat1; clear ho1 hg1' hat1)
        go_at_call 36
        have hs6 := HG6.out.size
        have hown6 : OwS w.heap.size w6 v4 (L ++ [y]) := OwS.snoc HO6.out HVL.out HVX.out HG6.out HA6.out RF3.out ⟨by have := HB.out.size; omega, by omega⟩ (fun h => by have := HON.out g0 h.symm; omega) hs6
        rw [← HL2.out] at hown6
        obtain ⟨Z, zz, hv, hz⟩ := hown6.read
        subst hv
        obtain ⟨_, _, he, hq⟩ := (OwS.grown HX3.out HG6.out (fun z hz => by have := HON.out z hz; omega)).read
        cases he
        have hb6 : Below w.heap.size v3 w6 := (Below.refl _ _).grown HG6.out hbase (fun z hz => by obtain ⟨vs0, hown0, _⟩ := HO4.out; exact (hown0.lt z hz).1)
        refine (recs_same l2 _ _ _ _ _ hq hz).mono ?_
        rintro e w8 ⟨rfl, hb⟩
        have HB8 := Lib.hid ((HB4.out.trans hb6).trans (hb.mono (by omega)))
        clear hb hb6 hq hz hown6
        go_wp2
        go_ret
        exact ⟨rfl, HB8.out⟩
end Go.Proofs.Ytjlihpbnhojdgaa.DiskRetry
