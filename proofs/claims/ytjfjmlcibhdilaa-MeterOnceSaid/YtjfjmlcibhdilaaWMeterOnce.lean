/- The walk of MeterOnce. -/
import Derived.Test.YtjfjmlcibhdilaaMet5
namespace Go.Proofs.Ytjfjmlcibhdilaa.MeterOnce
open Go.RowKit Go.Proofs.Ytjfjmlcibhdilaa.Base Go.Proofs.Ytjfjmlcibhdilaa.Win Go.Proofs.Ytjfjmlcibhdilaa.Orc Go.Proofs.Ytjfjmlcibhdilaa.Tok Go.Proofs.Ytjfjmlcibhdilaa.Met
set_option linter.unusedVariables false
set_option linter.unusedSimpArgs false
set_option maxRecDepth 20000
/-- Keyed twice: the first time it is taken, or there is no room; the second time it is used. -/
theorem law (n : Nw) (ps : List Pr) (t : Tk) (hf : faultI t = 0) (hc : t.cl = 0 ∨ t.cl = 1) (i0 : 1 ≤ t.id) (i1 : t.id ≤ 1048575) (a0 : 0 ≤ t.am) (a1 : t.cl = 0 → 1 ≤ t.am) (hv : verB ps n.mt.me n.mt.rev (bodyI t) t.tag = true) :
    keyR n.mt ps t = (n.mt, 0, 15) ∨ ∃ M ad, keyR n.mt ps t = (M, ad, 0) ∧ keyR M ps t = (M, 0, 14) ∧ M.ok ∧ mmay M = true ∧ (t.cl = 0 ↔ 0 < ad) := by
  obtain ⟨l0, l1, l2, l3⟩ := n.lim
  have hk := key_sold n.mt ps t hf rfl (by omega) l1.1 hv
  have hj : judgeI n.mt.wh n.mt.wb t.id = 0 := judge_new t.id i0
  obtain ⟨hinv, hh⟩ := first_inv t.id i0 i1
  have hagain : ∀ M : Mt, M.me = n.mt.me → M.rev = n.mt.rev → M.lock = 0 → M.wh = takeH 0 t.id → M.wb = takeB 0 0 t.id → keyR M ps t = (M, 0, 14) := by
    intro M e1 e2 e3 e4 e5
    rw [key_sold M ps t hf e3 (by omega) (by rw [e2]; exact l1.1) (by rw [e1, e2]; exact hv)]
    unfold takeR
    rw [e4, e5, first_judge t.id i0 i1]
    rfl
  have hmay : ∀ M : Mt, M.me = n.mt.me → M.rev = n.mt.rev → M.lock = 0 → M.bad = 0 → 0 ≤ M.cr ∧ M.cr ≤ 99999999 → M.wh = takeH 0 t.id → M.wb = takeB 0 0 t.id → M.ok ∧ mmay M = true := by
    intro M e1 e2 e3 e4 e5 e6 e7
    have c1 : M.c1 := ⟨by rw [e1]; exact l0, by rw [e2]; exact l1, e5⟩
    have c2 : M.c2 := ⟨by omega, by omega, by omega⟩
    have hw : wmay M.wh M.wb = true := by rw [e6, e7]; exact hinv.may
    exact ⟨ok_of c1 c2 hw (by rw [e7]; exact hinv.lt), mmay_of c1 c2 hw⟩
  rcases hc with hc | hc
  · rw [take_credit n.mt t hj hc] at hk
    by_cases h : n.mt.cr + t.am > 99999999
    · rw [if_pos h] at hk
      exact .inl hk
    · rw [if_neg h] at hk
      refine .inr ⟨_, _, hk, hagain _ rfl rfl rfl rfl rfl, ?_⟩
      obtain ⟨o1, o2⟩ := hmay { n.mt with cr := n.mt.cr + t.am, wh := takeH n.mt.wh t.id, wb := takeB n.mt.wh n.mt.wb t.id, bad := 0 } rfl rfl rfl rfl ⟨by show 0 ≤ n.mt.cr + t.am; omega, by show n.mt.cr + t.am ≤ _; omega⟩ rfl rfl
      exact ⟨o1, o2, by have := a1 hc; omega⟩
  · rw [take_clear n.mt t hj hc] at hk
    refine .inr ⟨_, _, hk, hagain _ rfl rfl rfl rfl rfl, ?_⟩
    obtain ⟨o1, o2⟩ := hmay { n.mt with cr := 0, wh := takeH n.mt.wh t.id, wb := takeB n.mt.wh n.mt.wb t.id, bad := 0 } rfl rfl rfl rfl ⟨by show (0 : Int) ≤ 0; omega, by show (0 : Int) ≤ 99999999; omega⟩ rfl rfl
    exact ⟨o1, o2, by omega⟩
set_option maxHeartbeats 4000000 in
theorem walk (n : Nw) (cs : List Value) (x : Tk) (xs : List Value) (w : World) (hn : cs = n.cs.toList ∧ n.ok) (hx : xs = x.vals.toList ∧ x.ok) :
    Calls Try.prog 10 #[.agg cs.toArray, .agg xs.toArray] w fun e w' => e = .returned (.bool true) ∧ Below w.heap.size w w' := by
  obtain ⟨rfl, hn⟩ := hn
  obtain ⟨rfl, hx⟩ := hx
  rw [show n.cs.toList.toArray = n.cs by simp, show x.vals.toList.toArray = x.vals by simp]
  have HN := Lib.hid (fun w => newMeter_any n w hn)
  obtain ⟨hok, hmay⟩ := n.good
  obtain ⟨l0, l1, l2, l3⟩ := n.lim
  obtain ⟨p0, p1⟩ := pk_bound x.cl 2 (by omega)
  have HP := Lib.hid (fun w => picked_any x.cl 2 w hx.1.1.1 hx.1.1.2 (by omega))
  obtain ⟨y, hy⟩ : ∃ y : Tk, y = { x with cl := pk x.cl 2 } := ⟨_, rfl⟩
  have hyok : y.ok := by rw [hy]; exact ⟨⟨⟨by show -9223372036854775808 ≤ pk x.cl 2; omega, by show pk x.cl 2 ≤ 9223372036854775807; omega⟩, hx.1.2⟩, hx.2⟩
  have HS := Lib.hid (fun w => sold_nil n.mt y w l0 l1 hyok)
  have hkp := kept_nil n.mt y l0 l1
  have hlim := sold_lim [] n.mt.me n.mt.rev y Kept.nil.good
  have hver := sold_ver n.mt y
  have hgood := soldT_good [] n.mt.me n.mt.rev y Kept.nil.good
  have hcl : (soldT [] n.mt.me n.mt.rev y).cl = pk x.cl 2 := by rw [hy]; exact pk_id _ 4 p0 (by dsimp only; omega)
  obtain ⟨kc, hkc⟩ : ∃ k, k = pk x.cl 2 := ⟨_, rfl⟩
  rw [← hkc] at HP hy hcl p0 p1
  generalize soldT [] n.mt.me n.mt.rev y = t at *
  generalize issL [] n.mt.me n.mt.rev (bodyI (madeT y)) (madeT y).tag = ps at *
  have HK := Lib.hid (fun A c w hr => key_yes n.mt ps t A c w hok hmay hr hkp.ok hkp.good)
  have hlaw := law n ps t hgood (by omega) hlim.1.1 hlim.1.2 hlim.2.1.1 hlim.2.2 hver
  have HKG := Lib.hid (fun (M : Mt) (ho : M.ok) (hm : mmay M = true) A c w hr => key_yes M ps t A c w ho hm hr hkp.ok hkp.good)
  have hmt : n.mt.wh = 0 ∧ n.mt.wb = 0 ∧ n.mt.lock = 0 := ⟨rfl, rfl, rfl⟩
  obtain ⟨e1, e2, e3⟩ := hmt
  generalize n.mt = m at *
  clear hlim hver hgood hkp hyok hx hn hkc
  rcases hlaw with hR | ⟨M, ad, hR, hR2, ho, hm, had⟩
  · rw [hR] at HK
    have HK2 := HK
    clear hok hmay hR HKG
    obtain ⟨me, rev, cr, wh, wb, bad, lock⟩ := m
    obtain ⟨na, nb, nc, nd⟩ := n
    obtain ⟨xc, xi, xa, xt⟩ := x
    obtain ⟨cl, id, am, tag⟩ := t
    simp only at *
    replace hcl := hcl.symm
    subst hy e1 e2 e3 hcl
    unfold Mt.vals Tk.vals Nw.cs at *
    simp only at *
    go_enter Try.func10, Try.ntmps10
    go_wp2_with (fail)
    go_at_call 24
    refine (HN.out _).mono ?_
    rintro e w1 ⟨rfl, hb⟩
    obtain ⟨bc, bf⟩ := bcell hb
    have hz1 := hb.size
    simp at hz1
    have HB1 := Lib.hid (below_then' (blw_alloc (blw_alloc (Below.refl _ _) _) _) hb)
    have lt0 : w.heap.size + 1 < w1.heap.size := by omega
    have xg0 : w1.cell? ⟨w.heap.size + 1, 0, none⟩ = some (.int .i64 xc) := by rw [bc _ _ (by simp <;> omega)]; go_simp
    have xf0 : w1.frozen? ⟨w.heap.size + 1, 0, none⟩ = false := by rw [bf _ _ (by simp <;> omega)]; go_simp
    have xg1 : w1.cell? ⟨w.heap.size + 1, 1, none⟩ = some (.int .i64 xi) := by rw [bc _ _ (by simp <;> omega)]; go_simp
    have xf1 : w1.frozen? ⟨w.heap.size + 1, 1, none⟩ = false := by rw [bf _ _ (by simp <;> omega)]; go_simp
    have xg2 : w1.cell? ⟨w.heap.size + 1, 2, none⟩ = some (.int .i64 xa) := by rw [bc _ _ (by simp <;> omega)]; go_simp
    have xf2 : w1.frozen? ⟨w.heap.size + 1, 2, none⟩ = false := by rw [bf _ _ (by simp <;> omega)]; go_simp
    have xg3 : w1.cell? ⟨w.heap.size + 1, 3, none⟩ = some (.int .i64 xt) := by rw [bc _ _ (by simp <;> omega)]; go_simp
    have xf3 : w1.frozen? ⟨w.heap.size + 1, 3, none⟩ = false := by rw [bf _ _ (by simp <;> omega)]; go_simp
    clear hb bc bf
    go_wp2_with (fail)
    go_at_call 19
    refine (HP.out _).mono ?_
    rintro e w' ⟨rfl, rfl⟩
    go_wp2_with (fail)
    go_at_call 25
    refine (HS.out _).mono ?_
    rintro e w2 ⟨B, q, rfl, ho, hb⟩
    obtain ⟨bc, bf⟩ := bcell hb
    have hz2 := hb.size
    simp at hz2
    have HO2 := Lib.hid ho
    have HB2 := Lib.hid ((blw_alloc (HB1.out.setCell (p := ⟨w.heap.size + 1, 0, none⟩) (by simp) (.int .i64 kc)) (.cells #[.int .i64 me, .int .i64 rev, .int .i64 cr, .int .i64 0, .int .u64 0, .int .i64 bad, .int .i64 0] 59)).trans (hb.mono (by simp; omega)))
    have lt1 : w1.heap.size < w2.heap.size := by omega
    have mg0 : w2.cell? ⟨w1.heap.size, 0, none⟩ = some (.int .i64 me) := by rw [bc _ _ (by simp <;> omega)]; go_simp
    have mg1 : w2.cell? ⟨w1.heap.size, 1, none⟩ = some (.int .i64 rev) := by rw [bc _ _ (by simp <;> omega)]; go_simp
    have mg2 : w2.cell? ⟨w1.heap.size, 2, none⟩ = some (.int .i64 cr) := by rw [bc _ _ (by simp <;> omega)]; go_simp
    have mg3 : w2.cell? ⟨w1.heap.size, 3, none⟩ = some (.int .i64 0) := by rw [bc _ _ (by simp <;> omega)]; go_simp
    have mg4 : w2.cell? ⟨w1.heap.size, 4, none⟩ = some (.int .u64 0) := by rw [bc _ _ (by simp <;> omega)]; go_simp
    have mg5 : w2.cell? ⟨w1.heap.size, 5, none⟩ = some (.int .i64 bad) := by rw [bc _ _ (by simp <;> omega)]; go_simp
    have mg6 : w2.cell? ⟨w1.heap.size, 6, none⟩ = some (.int .i64 0) := by rw [bc _ _ (by simp <;> omega)]; go_simp
    clear hb bc bf ho xg0 xf0 xg1 xf1 xg2 xf2 xg3 xf3
    have hrd := (World.ownsRow.alloc (World.ownsRow.alloc HO2.out (.cells #[.slice B ps.length q] 62)) (.cells #[.int .i64 kc, .int .i64 id, .int .i64 am, .int .i64 tag] 64) |> OwPr.read)
    have HRD := Lib.hid hrd
    clear hrd
    go_wp2_with (fail)
    go_at_call 23
    refine (HK.out _ _ _ HRD.out).mono ?_
    rintro e w3 ⟨rfl, hb⟩
    obtain ⟨bc, bf⟩ := bcell hb
    have hz3 := hb.size
    simp at hz3
    have HRD3 := Lib.hid (HRD.out.below hb)
    have HB3 := Lib.hid (below_then' (blw_alloc (blw_alloc HB2.out _) _) hb)
    have lt2 : w1.heap.size < w3.heap.size := by omega
    have lt3 : w2.heap.size + 1 < w3.heap.size := by omega
    have lt4 : w2.heap.size < w3.heap.size := by omega
    have ng0 : w3.cell? ⟨w1.heap.size, 0, none⟩ = some (.int .i64 me) := by rw [bc _ _ (by simp <;> omega)]; go_simp
    have ng1 : w3.cell? ⟨w1.heap.size, 1, none⟩ = some (.int .i64 rev) := by rw [bc _ _ (by simp <;> omega)]; go_simp
    have ng2 : w3.cell? ⟨w1.heap.size, 2, none⟩ = some (.int .i64 cr) := by rw [bc _ _ (by simp <;> omega)]; go_simp
    have ng3 : w3.cell? ⟨w1.heap.size, 3, none⟩ = some (.int .i64 0) := by rw [bc _ _ (by simp <;> omega)]; go_simp
    have ng4 : w3.cell? ⟨w1.heap.size, 4, none⟩ = some (.int .u64 0) := by rw [bc _ _ (by simp <;> omega)]; go_simp
    have ng5 : w3.cell? ⟨w1.heap.size, 5, none⟩ = some (.int .i64 bad) := by rw [bc _ _ (by simp <;> omega)]; go_simp
    have ng6 : w3.cell? ⟨w1.heap.size, 6, none⟩ = some (.int .i64 0) := by rw [bc _ _ (by simp <;> omega)]; go_simp
    have og0 : w3.cell? ⟨w2.heap.size, 0, none⟩ = some (.slice B ps.length q) := by rw [bc _ _ (by simp <;> omega)]; go_simp
    have tg0 : w3.cell? ⟨w2.heap.size + 1, 0, none⟩ = some (.int .i64 kc) := by rw [bc _ _ (by simp <;> omega)]; go_simp
    have tg1 : w3.cell? ⟨w2.heap.size + 1, 1, none⟩ = some (.int .i64 id) := by rw [bc _ _ (by simp <;> omega)]; go_simp
    have tg2 : w3.cell? ⟨w2.heap.size + 1, 2, none⟩ = some (.int .i64 am) := by rw [bc _ _ (by simp <;> omega)]; go_simp
    have tg3 : w3.cell? ⟨w2.heap.size + 1, 3, none⟩ = some (.int .i64 tag) := by rw [bc _ _ (by simp <;> omega)]; go_simp
    clear hb bc bf mg0 mg1 mg2 mg3 mg4 mg5 mg6
    go_wp2_with (fail)
    go_at_call 23
    refine (HK2.out _ _ _ (HRD3.out.below (blw_alloc (Below.refl _ _) _))).mono ?_
    rintro e w4 ⟨rfl, hb⟩
    obtain ⟨bc, bf⟩ := bcell hb
    have hz4 := hb.size
    simp at hz4
    have HB4 := Lib.hid (below_then' (blw_alloc HB3.out _) hb)
    have lt5 : w1.heap.size < w4.heap.size := by omega
    have lt6 : w3.heap.size < w4.heap.size := by omega
    have lt7 : w2.heap.size + 1 < w4.heap.size := by omega
    have pg0 : w4.cell? ⟨w1.heap.size, 0, none⟩ = some (.int .i64 me) := by rw [bc _ _ (by simp <;> omega)]; go_simp
    have pg1 : w4.cell? ⟨w1.heap.size, 1, none⟩ = some (.int .i64 rev) := by rw [bc _ _ (by simp <;> omega)]; go_simp
    have pg2 : w4.cell? ⟨w1.heap.size, 2, none⟩ = some (.int .i64 cr) := by rw [bc _ _ (by simp <;> omega)]; go_simp
    have pg3 : w4.cell? ⟨w1.heap.size, 3, none⟩ = some (.int .i64 0) := by rw [bc _ _ (by simp <;> omega)]; go_simp
    have pg4 : w4.cell? ⟨w1.heap.size, 4, none⟩ = some (.int .u64 0) := by rw [bc _ _ (by simp <;> omega)]; go_simp
    have pg5 : w4.cell? ⟨w1.heap.size, 5, none⟩ = some (.int .i64 bad) := by rw [bc _ _ (by simp <;> omega)]; go_simp
    have pg6 : w4.cell? ⟨w1.heap.size, 6, none⟩ = some (.int .i64 0) := by rw [bc _ _ (by simp <;> omega)]; go_simp
    have ag0 : w4.cell? ⟨w3.heap.size, 0, none⟩ = some (.int .i64 me) := by rw [bc _ _ (by simp <;> omega)]; go_simp
    have ag1 : w4.cell? ⟨w3.heap.size, 1, none⟩ = some (.int .i64 rev) := by rw [bc _ _ (by simp <;> omega)]; go_simp
    have ag2 : w4.cell? ⟨w3.heap.size, 2, none⟩ = some (.int .i64 cr) := by rw [bc _ _ (by simp <;> omega)]; go_simp
    have ag3 : w4.cell? ⟨w3.heap.size, 3, none⟩ = some (.int .i64 0) := by rw [bc _ _ (by simp <;> omega)]; go_simp
    have ag4 : w4.cell? ⟨w3.heap.size, 4, none⟩ = some (.int .u64 0) := by rw [bc _ _ (by simp <;> omega)]; go_simp
    have ag5 : w4.cell? ⟨w3.heap.size, 5, none⟩ = some (.int .i64 bad) := by rw [bc _ _ (by simp <;> omega)]; go_simp
    have ag6 : w4.cell? ⟨w3.heap.size, 6, none⟩ = some (.int .i64 0) := by rw [bc _ _ (by simp <;> omega)]; go_simp
    have ug0 : w4.cell? ⟨w2.heap.size + 1, 0, none⟩ = some (.int .i64 kc) := by rw [bc _ _ (by simp <;> omega)]; go_simp
    have ug1 : w4.cell? ⟨w2.heap.size + 1, 1, none⟩ = some (.int .i64 id) := by rw [bc _ _ (by simp <;> omega)]; go_simp
    have ug2 : w4.cell? ⟨w2.heap.size + 1, 2, none⟩ = some (.int .i64 am) := by rw [bc _ _ (by simp <;> omega)]; go_simp
    have ug3 : w4.cell? ⟨w2.heap.size + 1, 3, none⟩ = some (.int .i64 tag) := by rw [bc _ _ (by simp <;> omega)]; go_simp
    clear hb bc bf ng0 ng1 ng2 ng3 ng4 ng5 ng6 tg0 tg1 tg2 tg3 og0
    go_wp2
    go_ret
    exact ⟨by first | rfl | exact ret_bool (by simp), blw_alloc HB4.out _⟩
  · rw [hR] at HK
    have HK2 := Lib.hid (HKG.out M ho hm)
    rw [hR2] at HK2
    have HCL := Lib.hid (show ((t.cl == 0) == decide (0 < ad)) = true by rw [beq_iff_eq, Bool.eq_iff_iff]; simp only [beq_iff_eq, decide_eq_true_eq]; exact had)
    clear hok hmay hR HKG hR2 ho hm had
    obtain ⟨me, rev, cr, wh, wb, bad, lock⟩ := m
    obtain ⟨na, nb, nc, nd⟩ := n
    obtain ⟨xc, xi, xa, xt⟩ := x
    obtain ⟨cl, id, am, tag⟩ := t
    simp only at *
    replace hcl := hcl.symm
    subst hy e1 e2 e3 hcl
    unfold Mt.vals Tk.vals Nw.cs at *
    simp only at *
    go_enter Try.func10, Try.ntmps10
    go_wp2_with (fail)
    go_at_call 24
    refine (HN.out _).mono ?_
    rintro e w1 ⟨rfl, hb⟩
    obtain ⟨bc, bf⟩ := bcell hb
    have hz1 := hb.size
    simp at hz1
    have HB1 := Lib.hid (below_then' (blw_alloc (blw_alloc (Below.refl _ _) _) _) hb)
    have lt0 : w.heap.size + 1 < w1.heap.size := by omega
    have xg0 : w1.cell? ⟨w.heap.size + 1, 0, none⟩ = some (.int .i64 xc) := by rw [bc _ _ (by simp <;> omega)]; go_simp
    have xf0 : w1.frozen? ⟨w.heap.size + 1, 0, none⟩ = false := by rw [bf _ _ (by simp <;> omega)]; go_simp
    have xg1 : w1.cell? ⟨w.heap.size + 1, 1, none⟩ = some (.int .i64 xi) := by rw [bc _ _ (by simp <;> omega)]; go_simp
    have xf1 : w1.frozen? ⟨w.heap.size + 1, 1, none⟩ = false := by rw [bf _ _ (by simp <;> omega)]; go_simp
    have xg2 : w1.cell? ⟨w.heap.size + 1, 2, none⟩ = some (.int .i64 xa) := by rw [bc _ _ (by simp <;> omega)]; go_simp
    have xf2 : w1.frozen? ⟨w.heap.size + 1, 2, none⟩ = false := by rw [bf _ _ (by simp <;> omega)]; go_simp
    have xg3 : w1.cell? ⟨w.heap.size + 1, 3, none⟩ = some (.int .i64 xt) := by rw [bc _ _ (by simp <;> omega)]; go_simp
    have xf3 : w1.frozen? ⟨w.heap.size + 1, 3, none⟩ = false := by rw [bf _ _ (by simp <;> omega)]; go_simp
    clear hb bc bf
    go_wp2_with (fail)
    go_at_call 19
    refine (HP.out _).mono ?_
    rintro e w' ⟨rfl, rfl⟩
    go_wp2_with (fail)
    go_at_call 25
    refine (HS.out _).mono ?_
    rintro e w2 ⟨B, q, rfl, ho, hb⟩
    obtain ⟨bc, bf⟩ := bcell hb
    have hz2 := hb.size
    simp at hz2
    have HO2 := Lib.hid ho
    have HB2 := Lib.hid ((blw_alloc (HB1.out.setCell (p := ⟨w.heap.size + 1, 0, none⟩) (by simp) (.int .i64 kc)) (.cells #[.int .i64 me, .int .i64 rev, .int .i64 cr, .int .i64 0, .int .u64 0, .int .i64 bad, .int .i64 0] 59)).trans (hb.mono (by simp; omega)))
    have lt1 : w1.heap.size < w2.heap.size := by omega
    have mg0 : w2.cell? ⟨w1.heap.size, 0, none⟩ = some (.int .i64 me) := by rw [bc _ _ (by simp <;> omega)]; go_simp
    have mg1 : w2.cell? ⟨w1.heap.size, 1, none⟩ = some (.int .i64 rev) := by rw [bc _ _ (by simp <;> omega)]; go_simp
    have mg2 : w2.cell? ⟨w1.heap.size, 2, none⟩ = some (.int .i64 cr) := by rw [bc _ _ (by simp <;> omega)]; go_simp
    have mg3 : w2.cell? ⟨w1.heap.size, 3, none⟩ = some (.int .i64 0) := by rw [bc _ _ (by simp <;> omega)]; go_simp
    have mg4 : w2.cell? ⟨w1.heap.size, 4, none⟩ = some (.int .u64 0) := by rw [bc _ _ (by simp <;> omega)]; go_simp
    have mg5 : w2.cell? ⟨w1.heap.size, 5, none⟩ = some (.int .i64 bad) := by rw [bc _ _ (by simp <;> omega)]; go_simp
    have mg6 : w2.cell? ⟨w1.heap.size, 6, none⟩ = some (.int .i64 0) := by rw [bc _ _ (by simp <;> omega)]; go_simp
    clear hb bc bf ho xg0 xf0 xg1 xf1 xg2 xf2 xg3 xf3
    have hrd := (World.ownsRow.alloc (World.ownsRow.alloc HO2.out (.cells #[.slice B ps.length q] 62)) (.cells #[.int .i64 kc, .int .i64 id, .int .i64 am, .int .i64 tag] 64) |> OwPr.read)
    have HRD := Lib.hid hrd
    clear hrd
    go_wp2_with (fail)
    go_at_call 23
    refine (HK.out _ _ _ HRD.out).mono ?_
    rintro e w3 ⟨rfl, hb⟩
    obtain ⟨bc, bf⟩ := bcell hb
    have hz3 := hb.size
    simp at hz3
    have HRD3 := Lib.hid (HRD.out.below hb)
    have HB3 := Lib.hid (below_then' (blw_alloc (blw_alloc HB2.out _) _) hb)
    have lt2 : w1.heap.size < w3.heap.size := by omega
    have lt3 : w2.heap.size + 1 < w3.heap.size := by omega
    have lt4 : w2.heap.size < w3.heap.size := by omega
    have ng0 : w3.cell? ⟨w1.heap.size, 0, none⟩ = some (.int .i64 me) := by rw [bc _ _ (by simp <;> omega)]; go_simp
    have ng1 : w3.cell? ⟨w1.heap.size, 1, none⟩ = some (.int .i64 rev) := by rw [bc _ _ (by simp <;> omega)]; go_simp
    have ng2 : w3.cell? ⟨w1.heap.size, 2, none⟩ = some (.int .i64 cr) := by rw [bc _ _ (by simp <;> omega)]; go_simp
    have ng3 : w3.cell? ⟨w1.heap.size, 3, none⟩ = some (.int .i64 0) := by rw [bc _ _ (by simp <;> omega)]; go_simp
    have ng4 : w3.cell? ⟨w1.heap.size, 4, none⟩ = some (.int .u64 0) := by rw [bc _ _ (by simp <;> omega)]; go_simp
    have ng5 : w3.cell? ⟨w1.heap.size, 5, none⟩ = some (.int .i64 bad) := by rw [bc _ _ (by simp <;> omega)]; go_simp
    have ng6 : w3.cell? ⟨w1.heap.size, 6, none⟩ = some (.int .i64 0) := by rw [bc _ _ (by simp <;> omega)]; go_simp
    have og0 : w3.cell? ⟨w2.heap.size, 0, none⟩ = some (.slice B ps.length q) := by rw [bc _ _ (by simp <;> omega)]; go_simp
    have tg0 : w3.cell? ⟨w2.heap.size + 1, 0, none⟩ = some (.int .i64 kc) := by rw [bc _ _ (by simp <;> omega)]; go_simp
    have tg1 : w3.cell? ⟨w2.heap.size + 1, 1, none⟩ = some (.int .i64 id) := by rw [bc _ _ (by simp <;> omega)]; go_simp
    have tg2 : w3.cell? ⟨w2.heap.size + 1, 2, none⟩ = some (.int .i64 am) := by rw [bc _ _ (by simp <;> omega)]; go_simp
    have tg3 : w3.cell? ⟨w2.heap.size + 1, 3, none⟩ = some (.int .i64 tag) := by rw [bc _ _ (by simp <;> omega)]; go_simp
    clear hb bc bf mg0 mg1 mg2 mg3 mg4 mg5 mg6
    go_wp2_with (fail)
    go_at_call 23
    refine (HK2.out _ _ _ (HRD3.out.below (blw_alloc (Below.refl _ _) _))).mono ?_
    rintro e w4 ⟨rfl, hb⟩
    obtain ⟨bc, bf⟩ := bcell hb
    have hz4 := hb.size
    simp at hz4
    have HB4 := Lib.hid (below_then' (blw_alloc HB3.out _) hb)
    have lt5 : w1.heap.size < w4.heap.size := by omega
    have lt6 : w3.heap.size < w4.heap.size := by omega
    have lt7 : w2.heap.size + 1 < w4.heap.size := by omega
    have pg0 : w4.cell? ⟨w1.heap.size, 0, none⟩ = some (.int .i64 me) := by rw [bc _ _ (by simp <;> omega)]; go_simp
    have pg1 : w4.cell? ⟨w1.heap.size, 1, none⟩ = some (.int .i64 rev) := by rw [bc _ _ (by simp <;> omega)]; go_simp
    have pg2 : w4.cell? ⟨w1.heap.size, 2, none⟩ = some (.int .i64 cr) := by rw [bc _ _ (by simp <;> omega)]; go_simp
    have pg3 : w4.cell? ⟨w1.heap.size, 3, none⟩ = some (.int .i64 0) := by rw [bc _ _ (by simp <;> omega)]; go_simp
    have pg4 : w4.cell? ⟨w1.heap.size, 4, none⟩ = some (.int .u64 0) := by rw [bc _ _ (by simp <;> omega)]; go_simp
    have pg5 : w4.cell? ⟨w1.heap.size, 5, none⟩ = some (.int .i64 bad) := by rw [bc _ _ (by simp <;> omega)]; go_simp
    have pg6 : w4.cell? ⟨w1.heap.size, 6, none⟩ = some (.int .i64 0) := by rw [bc _ _ (by simp <;> omega)]; go_simp
    have ag0 : w4.cell? ⟨w3.heap.size, 0, none⟩ = some (.int .i64 M.me) := by rw [bc _ _ (by simp <;> omega)]; go_simp
    have ag1 : w4.cell? ⟨w3.heap.size, 1, none⟩ = some (.int .i64 M.rev) := by rw [bc _ _ (by simp <;> omega)]; go_simp
    have ag2 : w4.cell? ⟨w3.heap.size, 2, none⟩ = some (.int .i64 M.cr) := by rw [bc _ _ (by simp <;> omega)]; go_simp
    have ag3 : w4.cell? ⟨w3.heap.size, 3, none⟩ = some (.int .i64 M.wh) := by rw [bc _ _ (by simp <;> omega)]; go_simp
    have ag4 : w4.cell? ⟨w3.heap.size, 4, none⟩ = some (.int .u64 (M.wb : Int)) := by rw [bc _ _ (by simp <;> omega)]; go_simp
    have ag5 : w4.cell? ⟨w3.heap.size, 5, none⟩ = some (.int .i64 M.bad) := by rw [bc _ _ (by simp <;> omega)]; go_simp
    have ag6 : w4.cell? ⟨w3.heap.size, 6, none⟩ = some (.int .i64 M.lock) := by rw [bc _ _ (by simp <;> omega)]; go_simp
    have ug0 : w4.cell? ⟨w2.heap.size + 1, 0, none⟩ = some (.int .i64 kc) := by rw [bc _ _ (by simp <;> omega)]; go_simp
    have ug1 : w4.cell? ⟨w2.heap.size + 1, 1, none⟩ = some (.int .i64 id) := by rw [bc _ _ (by simp <;> omega)]; go_simp
    have ug2 : w4.cell? ⟨w2.heap.size + 1, 2, none⟩ = some (.int .i64 am) := by rw [bc _ _ (by simp <;> omega)]; go_simp
    have ug3 : w4.cell? ⟨w2.heap.size + 1, 3, none⟩ = some (.int .i64 tag) := by rw [bc _ _ (by simp <;> omega)]; go_simp
    clear hb bc bf ng0 ng1 ng2 ng3 ng4 ng5 ng6 tg0 tg1 tg2 tg3 og0
    go_wp2
    go_ret
    exact ⟨ret_bool (by simpa using HCL.out), blw_alloc HB4.out _⟩
end Go.Proofs.Ytjfjmlcibhdilaa.MeterOnce
