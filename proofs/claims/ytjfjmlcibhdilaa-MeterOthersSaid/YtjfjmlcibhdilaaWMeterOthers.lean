/- The walk of MeterOthers. -/
import Derived.Test.YtjfjmlcibhdilaaMet5
namespace Go.Proofs.Ytjfjmlcibhdilaa.MeterOthers
open Go.RowKit Go.Proofs.Ytjfjmlcibhdilaa.Base Go.Proofs.Ytjfjmlcibhdilaa.Win Go.Proofs.Ytjfjmlcibhdilaa.Orc Go.Proofs.Ytjfjmlcibhdilaa.Tok Go.Proofs.Ytjfjmlcibhdilaa.Met
set_option linter.unusedVariables false
set_option linter.unusedSimpArgs false
set_option maxRecDepth 20000
/-- What was sold elsewhere is no good here. -/
theorem law (n : Nw) (fm : Int) (hfm : fm ≠ n.mt.me) (rev b d : Int) (t : Tk) (hf : faultI t = 0) (hc : t.cl ≠ 3) : keyR n.mt (issL [] fm rev b d) t = (badM n.mt, 0, 12) := by
  have hn : ∀ r, verB (issL [] fm rev b d) n.mt.me r (bodyI t) t.tag = false := by
    intro r
    have : had (issL [] fm rev b d) n.mt.me r (bodyI t) = false := by
      show had [⟨fm, rev, b, d⟩] n.mt.me r (bodyI t) = false
      simp [had, same]
      intro h
      exact absurd h hfm
    unfold verB
    rw [this]
    rfl
  have hs : soldI n.mt (issL [] fm rev b d) (bodyI t) t.tag = 12 := by
    unfold soldI
    rw [seek_none _ _ _ _ hn, if_pos (by omega)]
  unfold keyR
  rw [if_neg (by simp [hf]), if_neg (by show ¬ (0 : Int) < 0; omega), if_neg hc, if_pos (by rw [hs]; simp), hs]
  rfl
set_option maxHeartbeats 4000000 in
theorem walk (n : Nw) (cs : List Value) (ot : Int) (x : Tk) (xs : List Value) (w : World) (hn : cs = n.cs.toList ∧ n.ok) (wo : (Lit.int .i64 ot).wf = true) (hx : xs = x.vals.toList ∧ x.ok) :
    Calls Try.prog 11 #[.agg cs.toArray, .int .i64 ot, .agg xs.toArray] w fun e w' => e = .returned (.bool true) ∧ Below w.heap.size w w' := by
  obtain ⟨rfl, hn⟩ := hn
  obtain ⟨rfl, hx⟩ := hx
  obtain ⟨o0, o1⟩ := i64_bound wo
  clear wo
  rw [show n.cs.toList.toArray = n.cs by simp, show x.vals.toList.toArray = x.vals by simp]
  have HN := Lib.hid (fun w => newMeter_any n w hn)
  obtain ⟨hok, hmay⟩ := n.good
  obtain ⟨l0, l1, l2, l3⟩ := n.lim
  obtain ⟨p0, p1⟩ := pk_bound x.cl 3 (by omega)
  obtain ⟨q0, q1⟩ := pk_bound ot 49 (by omega)
  have HP := Lib.hid (fun w => picked_any x.cl 3 w hx.1.1.1 hx.1.1.2 (by omega))
  have HQ := Lib.hid (fun w => picked_any ot 49 w o0 o1 (by omega))
  obtain ⟨y, hy⟩ : ∃ y : Tk, y = { x with cl := pk x.cl 3 } := ⟨_, rfl⟩
  have hyok : y.ok := by rw [hy]; exact ⟨⟨⟨by show -9223372036854775808 ≤ pk x.cl 3; omega, by show pk x.cl 3 ≤ 9223372036854775807; omega⟩, hx.1.2⟩, hx.2⟩
  obtain ⟨fm, hfm⟩ : ∃ f, f = (n.mt.me + 1 + pk ot 49) % 50 := ⟨_, rfl⟩
  have hfr : fm ≠ n.mt.me ∧ 0 ≤ fm ∧ fm < 50 := by omega
  have HS := Lib.hid (fun w => sold_nil { n.mt with me := fm } y w hfr.2 l1 hyok)
  have hkp := kept_nil { n.mt with me := fm } y hfr.2 l1
  have hgood := soldT_good [] fm n.mt.rev y Kept.nil.good
  have hcl : (soldT [] fm n.mt.rev y).cl = pk x.cl 3 := by rw [hy]; exact pk_id _ 4 p0 (by dsimp only; omega)
  have hR := law n fm hfr.1 n.mt.rev (bodyI (madeT y)) (madeT y).tag (soldT [] fm n.mt.rev y) hgood (by rw [hcl]; omega)
  obtain ⟨kc, hkc⟩ : ∃ k, k = pk x.cl 3 := ⟨_, rfl⟩
  obtain ⟨ko, hko⟩ : ∃ k, k = pk ot 49 := ⟨_, rfl⟩
  rw [← hkc] at HP hy hcl p0 p1
  rw [← hko] at HQ hfm q0 q1
  simp only at HS hkp
  generalize soldT [] fm n.mt.rev y = t at *
  generalize issL [] fm n.mt.rev (bodyI (madeT y)) (madeT y).tag = ps at *
  have HK := Lib.hid (fun A c w hr => key_yes n.mt ps t A c w hok hmay hr hkp.ok hkp.good)
  rw [hR] at HK
  have hM : (badM n.mt).rev = n.mt.rev ∧ (badM n.mt).cr = n.mt.cr ∧ (badM n.mt).wh = 0 ∧ (badM n.mt).wb = 0 := by
    unfold badM
    split <;> exact ⟨rfl, rfl, rfl, rfl⟩
  obtain ⟨g1, g2, g3, g4⟩ := hM
  generalize badM n.mt = M at *
  have hmt : n.mt.wh = 0 ∧ n.mt.wb = 0 ∧ n.mt.lock = 0 := ⟨rfl, rfl, rfl⟩
  obtain ⟨e1, e2, e3⟩ := hmt
  have hfw : (n.mt.me + 1 + ko) % 50 = fm := hfm.symm
  have hft : (n.mt.me + 1 + ko).tmod 50 = fm := by rw [Int.tmod_eq_emod_of_nonneg (by omega)]; exact hfw
  generalize n.mt = m at *
  clear hgood hkp hyok hx hn hkc hko hok hmay hR hfr o0 o1
  obtain ⟨me, rev, cr, wh, wb, bad, lock⟩ := m
  obtain ⟨na, nb, nc, nd⟩ := n
  obtain ⟨xc, xi, xa, xt⟩ := x
  obtain ⟨cl, id, am, tag⟩ := t
  obtain ⟨Mme, Mrev, Mcr, Mwh, Mwb, Mbad, Mlock⟩ := M
  simp only at *
  replace hcl := hcl.symm
  replace g1 := g1.symm
  replace g2 := g2.symm
  clear hfm hfw
  have wa : IntKind.i64.wrap (me + 1) = me + 1 := by rw [IntKind.wrap_i64]; omega
  have wb : IntKind.i64.wrap (me + 1 + ko) = me + 1 + ko := by rw [IntKind.wrap_i64]; omega
  have WA := Lib.hid wa
  have WB := Lib.hid wb
  have HFT := Lib.hid hft
  clear wa wb hft
  subst hy e1 e2 e3 hcl g1 g2 g3 g4
  unfold Mt.vals Tk.vals Nw.cs at *
  simp only at *
  go_enter Try.func11, Try.ntmps11
  go_wp2_with (fail)
  go_at_call 24
  refine (HN.out _).mono ?_
  rintro e w1 ⟨rfl, hb⟩
  obtain ⟨bc, bf⟩ := bcell hb
  have hz1 := hb.size
  simp at hz1
  have HB1 := Lib.hid (below_then' (blw_alloc (blw_alloc (Below.refl _ _) _) _) hb)
  have lt0 : w.heap.size + 1 < w1.heap.size := by omega
  have xg0 : w1.cell? ⟨w.heap.size + 1, 0, none⟩ = some (.int .i64 xc) := by rw [bc _ _ (by simp <;> omega)]; go_simp
  have xf0 : w1.frozen? ⟨w.heap.size + 1, 0, none⟩ = false := by rw [bf _ _ (by simp <;> omega)]; go_simp
  have xg1 : w1.cell? ⟨w.heap.size + 1, 1, none⟩ = some (.int .i64 xi) := by rw [bc _ _ (by simp <;> omega)]; go_simp
  have xf1 : w1.frozen? ⟨w.heap.size + 1, 1, none⟩ = false := by rw [bf _ _ (by simp <;> omega)]; go_simp
  have xg2 : w1.cell? ⟨w.heap.size + 1, 2, none⟩ = some (.int .i64 xa) := by rw [bc _ _ (by simp <;> omega)]; go_simp
  have xf2 : w1.frozen? ⟨w.heap.size + 1, 2, none⟩ = false := by rw [bf _ _ (by simp <;> omega)]; go_simp
  have xg3 : w1.cell? ⟨w.heap.size + 1, 3, none⟩ = some (.int .i64 xt) := by rw [bc _ _ (by simp <;> omega)]; go_simp
  have xf3 : w1.frozen? ⟨w.heap.size + 1, 3, none⟩ = false := by rw [bf _ _ (by simp <;> omega)]; go_simp
  clear hb bc bf
  go_wp2
  go_region_held3 (fun w' => w'.cell? ⟨w1.heap.size, 0, none⟩ = some (.int .i64 me)) (go_keep) ((go_at_call 19; refine (HQ.out _).mono ?_; rintro e w' ⟨rfl, rfl⟩))
  all_goals
    rw [WA.out, WB.out, HFT.out]
    have ltm : w.heap.size < w1.heap.size := by omega
    have n1 : w.heap.size ≠ w1.heap.size := by omega
    have n2 : w1.heap.size ≠ w.heap.size := by omega
    go_wp2_with (fail)
    go_at_call 19
    refine (HP.out _).mono ?_
    rintro e w' ⟨rfl, rfl⟩
    go_wp2_with (fail)
    go_at_call 25
    refine (HS.out _).mono ?_
    rintro e w2 ⟨B, q, rfl, ho, hb⟩
    obtain ⟨bc, bf⟩ := bcell hb
    have hz2 := hb.size
    simp at hz2
    have HO2 := Lib.hid ho
    have HB2 := Lib.hid (below_then' (show Below w.heap.size w _ from (blw_alloc (blw_alloc (HB1.out.setCell (p := ⟨w.heap.size + 1, 0, none⟩) (by simp) _) _) _).drew) hb)
    have lt1 : w1.heap.size < w2.heap.size := by omega
    have mg0 : w2.cell? ⟨w1.heap.size, 0, none⟩ = some (.int .i64 me) := by rw [bc _ _ (by simp <;> omega)]; go_simp
    have mg1 : w2.cell? ⟨w1.heap.size, 1, none⟩ = some (.int .i64 rev) := by rw [bc _ _ (by simp <;> omega)]; go_simp
    have mg2 : w2.cell? ⟨w1.heap.size, 2, none⟩ = some (.int .i64 cr) := by rw [bc _ _ (by simp <;> omega)]; go_simp
    have mg3 : w2.cell? ⟨w1.heap.size, 3, none⟩ = some (.int .i64 0) := by rw [bc _ _ (by simp <;> omega)]; go_simp
    have mg4 : w2.cell? ⟨w1.heap.size, 4, none⟩ = some (.int .u64 0) := by rw [bc _ _ (by simp <;> omega)]; go_simp
    have mg5 : w2.cell? ⟨w1.heap.size, 5, none⟩ = some (.int .i64 bad) := by rw [bc _ _ (by simp <;> omega)]; go_simp
    have mg6 : w2.cell? ⟨w1.heap.size, 6, none⟩ = some (.int .i64 0) := by rw [bc _ _ (by simp <;> omega)]; go_simp
    clear hb bc bf ho xg0 xf0 xg1 xf1 xg2 xf2 xg3 xf3
    have hrd := (World.ownsRow.alloc (World.ownsRow.alloc HO2.out (.cells #[.slice B ps.length q] 62)) (.cells #[.int .i64 kc, .int .i64 id, .int .i64 am, .int .i64 tag] 64) |> OwPr.read)
    have HRD := Lib.hid hrd
    clear hrd
    go_wp2_with (fail)
    go_at_call 23
    refine (HK.out _ _ _ HRD.out).mono ?_
    rintro e w3 ⟨rfl, hb⟩
    obtain ⟨bc, bf⟩ := bcell hb
    have hz3 := hb.size
    simp at hz3
    have HB3 := Lib.hid (below_then' (blw_alloc (blw_alloc HB2.out _) _) hb)
    have lt2 : w1.heap.size < w3.heap.size := by omega
    have ng0 : w3.cell? ⟨w1.heap.size, 0, none⟩ = some (.int .i64 me) := by rw [bc _ _ (by simp <;> omega)]; go_simp
    have ng1 : w3.cell? ⟨w1.heap.size, 1, none⟩ = some (.int .i64 rev) := by rw [bc _ _ (by simp <;> omega)]; go_simp
    have ng2 : w3.cell? ⟨w1.heap.size, 2, none⟩ = some (.int .i64 cr) := by rw [bc _ _ (by simp <;> omega)]; go_simp
    have ng3 : w3.cell? ⟨w1.heap.size, 3, none⟩ = some (.int .i64 0) := by rw [bc _ _ (by simp <;> omega)]; go_simp
    have ng4 : w3.cell? ⟨w1.heap.size, 4, none⟩ = some (.int .u64 0) := by rw [bc _ _ (by simp <;> omega)]; go_simp
    have ng5 : w3.cell? ⟨w1.heap.size, 5, none⟩ = some (.int .i64 bad) := by rw [bc _ _ (by simp <;> omega)]; go_simp
    have ng6 : w3.cell? ⟨w1.heap.size, 6, none⟩ = some (.int .i64 0) := by rw [bc _ _ (by simp <;> omega)]; go_simp
    clear hb bc bf mg0 mg1 mg2 mg3 mg4 mg5 mg6
    go_wp2
    go_ret
    exact ⟨by first | rfl | exact ret_bool (by simp), blw_alloc HB3.out _⟩
end Go.Proofs.Ytjfjmlcibhdilaa.MeterOthers
