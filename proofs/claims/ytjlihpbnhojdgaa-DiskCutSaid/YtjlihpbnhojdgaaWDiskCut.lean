/- The walk of DiskCut. -/
import Derived.Test.YtjlihpbnhojdgaaTape2
import Derived.Deep.Cut
namespace Go.Proofs.Ytjlihpbnhojdgaa.DiskCut
open Go.RowKit Go.Proofs.Ytjlihpbnhojdgaa.Base Go.Proofs.Ytjlihpbnhojdgaa.Cell
set_option linter.unusedVariables false
set_option linter.unusedSimpArgs false
set_option maxRecDepth 20000
set_option maxHeartbeats 8000000 in
theorem walk (recs : List (List UInt32)) (A : Option Addr) (q : Nat) (rec : List UInt32) (R : Option Addr) (d : Nat) (k : Int) (w : World) (hr : Open.RdR 1 (fun (xs : List UInt32) cs => ∃ A c, cs = [Value.slice A xs.length c] ∧ xs.length ≤ c ∧ Open.RdR 1 (fun (x : UInt32) cs => cs = encW x) w A xs) w A recs) (hl : RdE 1 encW w R rec) (wk : (Lit.int .i64 k).wf = true) :
    Calls Try.prog 13 #[.slice A recs.length q, .slice R rec.length d, .int .i64 k] w fun e w' => e = .returned (.bool true) ∧ Below w.heap.size w w' := by
  have HK := Lib.hid (i64_bound wk)
  have hrs := RdS.of hr
  have hmx := hrs.1
  have HRS := Lib.hid hrs
  have HR := Lib.hid hl
  have HSM := Lib.hid (fun w hr => some_few rec 20 20 R d w hr rfl (by omega) (by omega))
  obtain ⟨r0, r1⟩ := some_len rec 20 (by omega)
  have htp := fun w hr => tape_any recs 25 A q w hr (by omega) (by omega)
  have HTP := Lib.hid htp
  clear hr wk hrs hl htp
  generalize someL rec 20 = y at *
  go_enter Try.func13, Try.ntmps13
  go_wp2_with (fail)
  go_at_call 31
  refine (HTP.out _ HRS.out).mono ?_
  rintro e w1 ⟨k1, B, p, c, D, r, hk1, rfl, hcl, hc0, hc1, hcp, ht, hrc, hos, hb⟩
  have HB := Lib.hid hb
  have HT := Lib.hid ht
  have RC := Lib.hid hrc
  have HO := Lib.hid hos
  have hle := enc_le _ (fun r hr => (tapeL_in recs k1 r hr).2)
  have hln := tapeL_len recs k1 (by omega)
  have HLN := Lib.hid hln
  have HIN := Lib.hid (tapeL_in recs k1)
  have hlb : (tapeL recs k1).length ≤ 12 := by omega
  have HCL := Lib.hid hcl
  have HCP := Lib.hid hcp
  have HK1 := Lib.hid hk1
  clear hb ht hrc hos hcl hcp hk1 hle hln
  generalize tapeL recs k1 = L at *
  go_wp2_with (fail)
  go_at_call 20
  refine (HSM.out _ (HR.out.below HB.out)).mono ?_
  rintro e w2 ⟨F, f, rfl, ho, hb⟩
  obtain ⟨g0, rfl, hg0, hg1⟩ := own_addr ho (by omega)
  have RF := Lib.hid (OwW.read ho)
  have RC2 := Lib.hid (RC.out.below hb)
  have HO2 := Lib.hid (HO.out.after hb)
  have hon : ∀ z, (Value.slice D L.length r).ownBlock = some z → z < w1.heap.size := by
    obtain ⟨vs0, hown0, _⟩ := HO.out
    intro z hz
    exact (hown0.lt z hz).2
  have HON := Lib.hid hon
  have HB2 := Lib.hid (HB.out.trans (hb.mono HB.out.size))
  have hs2' := hb.size
  clear ho hb hon HO RC
  have hlim : (encL L).length + 1 + y.length ≤ c.length := by have := HCL.out; omega
  have HAY := Lib.hid (append_yes c y L B (some ⟨g0, 0, none⟩) p f w2 RC2.out RF.out HT.out hc0 hc1 HCP.out r0 (by omega) hlim)
  obtain ⟨l0, l1⟩ := appendW_len c.length (encL L).length y
  have hin := Lib.hid (appendW_in c.length (encL L).length y hlim)
  have hal := Lib.hid (append_all HT.out y r0 (by omega) hlim)
  have hct := Lib.hid (fun j hj => append_cut HT.out y j hj)
  generalize appendW c.length (encL L).length y = ws at *
  go_wp2_with (fail)
  go_at_call 32
  refine HAY.out.mono ?_
  rintro e w3 ⟨G, g, rfl, ho, hb⟩
  have RG := Lib.hid ho
  have hgc := Lib.hid (own_cap ho)
  have RC3 := Lib.hid (RC2.out.below hb)
  have HO3 := Lib.hid (HO2.out.after hb)
  have RF3 := Lib.hid (RF.out.below hb)
  have HB3 := Lib.hid (HB2.out.trans (hb.mono HB2.out.size))
  have hs3 := hb.size
  clear ho hb
  have hz1 : ((ws.length : Int) == 0) = false := beq_eq_false_iff_ne.mpr (by omega)
  have hz2 : (ws.length == 0) = false := beq_eq_false_iff_ne.mpr (by omega)
  obtain ⟨k0, k2⟩ := HK.out
  obtain ⟨j0, j1⟩ := pk_bound k ((ws.length : Int) + 1) (by omega)
  have HPK := Lib.hid (fun w => picked_any k ((ws.length : Int) + 1) w k0 k2 (by omega))
  obtain ⟨cut, hcu⟩ : ∃ cut : Nat, pk k ((ws.length : Int) + 1) = (cut : Int) := ⟨(pk k ((ws.length : Int) + 1)).toNat, by omega⟩
  rw [hcu] at HPK j1
  have hgc2 := hgc.out
  have HAP := Lib.hid (fun w hc hw => apply_any c ws cut (cut : Int) B G p g w hc hw hc0 hc1 (by omega) hgc2 (fun x hx => (hin.out x hx).2) rfl (by omega))
  have hcl2 := Lib.hid (applyL_len (ws.take cut) c)
  have hcuts : cut < ws.length ∨ cut = ws.length := by omega
  have HCUT := Lib.hid hcuts
  have h25 : (encL L).length = c.length - 25 := by have := HCL.out; omega
  have h26 : 25 ≤ c.length := by have := HCL.out; omega
  have H25 := Lib.hid h25
  clear hgc2 hcu j0 k0 k2 hcuts h25
  go_wp2_with (fail)
  go_at_call 15
  refine (HPK.out _).mono ?_
  rintro e w' ⟨rfl, rfl⟩
  go_wp2_with (fail)
  go_at_call 37
  refine (HAP.out _ RC3.out (OwWr.read RG.out)).mono ?_
  rintro e w4 ⟨E, h, rfl, ho, hb⟩
  have RE := Lib.hid (OwW.read ho)
  have hec := Lib.hid (own_cap ho)
  have RG4 := Lib.hid (own_kept RG.out hb)
  have HO4 := Lib.hid (HO3.out.after hb)
  have RF4 := Lib.hid (RF3.out.below hb)
  have HB4 := Lib.hid (HB3.out.trans (hb.mono HB3.out.size))
  have hs4 := hb.size
  clear ho hb
  obtain ⟨l2, hl2, hT2, hL2⟩ : ∃ l2, (l2 = if cut = ws.length then L ++ [y] else L) ∧ Cell.Tape (applyL c (ws.take cut)) l2 ∧ l2.length ≤ 13 := by
    by_cases he : cut = ws.length
    · exact ⟨L ++ [y], by rw [if_pos he], by rw [he, List.take_of_length_le (Nat.le_refl _)]; exact hal.out, by simp; omega⟩
    · exact ⟨L, by rw [if_neg he], hct.out cut (by omega), by omega⟩
  have HT2 := Lib.hid hT2
  have HL2 := Lib.hid hl2
  clear hl2 hT2
  have hcc := hcl2.out
  generalize applyL c (ws.take cut) = c2 at *
  have HRP := Lib.hid (replay_own c2 l2 E h w4 RE.out HT2.out (by omega) (by omega) hec.out (by omega))
  have HCC := Lib.hid hcc
  clear hcc hcl2
  go_wp2_with (fail)
  go_at_call 35
  refine HRP.out.mono ?_
  rintro e w5 ⟨X, x, rfl, hg, hb⟩
  have HX5 := Lib.hid hg
  have RG5 := Lib.hid (own_kept RG4.out hb)
  have HO5 := Lib.hid (HO4.out.after hb)
  have RF5 := Lib.hid (RF4.out.below hb)
  have HB5 := Lib.hid (HB4.out.trans (hb.mono HB4.out.size))
  have hs5 := hb.size
  clear hg hb
  go_upto_if 70 with fail
  go_cut [8] (fun v wx => ∃ Z z, v = .slice Z l2.length z ∧ RdS wx Z l2 ∧ RdS wx X l2 ∧ RdE 2 Wr.enc wx G ws ∧ Below w.heap.size w wx)
  case first =>
    by_cases he : cut = ws.length
    · have hei : ((cut : Int) == (ws.length : Int)) = true := by simp only [beq_iff_eq]; omega
      have hen : (cut == ws.length) = true := by simp only [beq_iff_eq]; omega
      have HL3 := Lib.hid (show l2 = L ++ [y] by rw [HL2.out, if_pos he])
      obtain ⟨vs, hown, hvl, hvx⟩ := HO5.out
      have HOW := Lib.hid hown
      have HVX := Lib.hid hvx
      have HVL := Lib.hid hvl
      have hbase := HB5.out.size
      clear hown hvx hvl he
      go_wp2_with (at_builtin; refine app1 (w0 := w5) w.heap.size rfl (.tmp 71) (.tmp 73) 66 36 (.slice none 0 0) 1 24 rfl Try.underlying66 info_sw rfl (by decide) (by decide) _ _ _ [.slice (some ⟨g0, 0, none⟩) y.length f] rfl rfl rfl ?c1 HOW.out (Below.refl _ _) hbase ?c2 ?_; (case c1 => intro u hu; simp at hu; subst hu; rfl); (case c2 => omega); intro v1 w6 ho1 hb1 hg1' hat1; have HO6 := Lib.hid ho1; have HB6 := Lib.hid hb1; have HG6 := Lib.hid hg1'; have HA6 := Lib.hid hat1; clear ho1 hb1 hg1' hat1)
      go_meet
      case rel =>
        have hs6 := HG6.out.size
        have hown6 : OwS w.heap.size w6 v1 (L ++ [y]) := OwS.snoc HO6.out HVL.out HVX.out HG6.out HA6.out RF5.out ⟨by have := HB.out.size; omega, by omega⟩ (fun h => by have := HON.out g0 h.symm; omega) hs6
        obtain ⟨Z, z, hv, hz⟩ := hown6.read
        rw [HL3.out]
        refine ⟨Z, z, hv, hz, ?_, ?_, ?_⟩
        · obtain ⟨_, _, he, hq⟩ := (OwS.grown HX5.out HG6.out (fun z hz => by have := HON.out z hz; have := HB2.out.size; have := hs2'; omega)).read
          cases he
          rw [HL3.out] at hq
          exact hq
        · exact OwWr.read (show OwWr w2.heap.size w6 G g ws from own_grown RG5.out HG6.out (fun z hz => by have := HON.out z hz; omega))
        · exact HB5.out.trans HB6.out
    · have hei : ((cut : Int) == (ws.length : Int)) = false := beq_eq_false_iff_ne.mpr (by omega)
      have hen : (cut == ws.length) = false := beq_eq_false_iff_ne.mpr (by omega)
      have HL3 := Lib.hid (show l2 = L by rw [HL2.out, if_neg he])
      obtain ⟨Z, z, hv, hz⟩ := HO5.out.read
      cases hv
      have HZ := Lib.hid hz
      clear he hz
      go_wp2_with fail
      go_meet
      case rel =>
        obtain ⟨_, _, he, hq⟩ := HX5.out.read
        cases he
        exact ⟨D, r, by rw [HL3.out], by rw [HL3.out]; exact HZ.out, hq, OwWr.read RG5.out, HB5.out⟩
  case rest =>
    obtain ⟨Z, z, rfl, hz, hx, hg, hb⟩ := hcut
    have HZ := Lib.hid hz
    have HX := Lib.hid hx
    have HG := Lib.hid hg
    have HBc := Lib.hid hb
    clear hz hx hg hb
    go_wp2_with (fail)
    obtain ⟨w7, rfl⟩ : ∃ wo : World, wo = wc := ⟨_, rfl⟩
    go_loopg [19] ws.length (fun m i wr => ∃ j : Nat, m + j = ws.length ∧ i = .int .i64 j ∧ w7 = wr)
    case atStart => exact ⟨0, by omega, rfl, rfl⟩
    case round =>
      obtain ⟨j, hj, rfl, rfl⟩ := hrel
      by_cases hjl : j < ws.length
      · obtain ⟨ad, hae, a0, a1⟩ := HG.out.at2 j hjl _ _ rfl
        subst hae
        have hat := (hin.out _ (List.getElem_mem hjl)).1
        have h27 := H25.out
        have hge : (c.length : Int) - 25 ≤ ((ws[j]'hjl).at_ : Int) := by omega
        generalize (ws[j]'hjl).at_ = av at *
        clear h27 hat a1
        have hji : (j : Int) < (ws.length : Int) := by omega
        have hj0 : (0 : Int) ≤ (j : Int) := by omega
        go_wp2_with (fail)
        go_roundg (ws.length - (j + 1))
        case measure => omega
        case rel => exact ⟨j + 1, by omega, by go_num, rfl⟩
      · obtain rfl : j = ws.length := by omega
        go_wp2_with (fail)
        go_at_call 36
        refine (recs_same l2 _ _ _ _ _ HX.out HZ.out).mono ?_
        rintro e w8 ⟨rfl, hb⟩
        have HB8 := Lib.hid (HBc.out.trans (hb.mono HBc.out.size))
        clear hb
        go_wp2
        go_ret
        exact ⟨rfl, HB8.out⟩
end Go.Proofs.Ytjlihpbnhojdgaa.DiskCut
