/- The walk of MeterAdds. -/
import Derived.Test.YtjfjmlcibhdilaaMet5
namespace Go.Proofs.Ytjfjmlcibhdilaa.MeterAdds
open Go.RowKit Go.Proofs.Ytjfjmlcibhdilaa.Base Go.Proofs.Ytjfjmlcibhdilaa.Win Go.Proofs.Ytjfjmlcibhdilaa.Orc Go.Proofs.Ytjfjmlcibhdilaa.Tok Go.Proofs.Ytjfjmlcibhdilaa.Met
set_option linter.unusedVariables false
set_option linter.unusedSimpArgs false
set_option maxRecDepth 20000
set_option maxHeartbeats 2000000 in
theorem walk (n : Nw) (cs : List Value) (x : Tk) (xs : List Value) (w : World) (hn : cs = n.cs.toList ∧ n.ok) (hx : xs = x.vals.toList ∧ x.ok) :
    Calls Try.prog 9 #[.agg cs.toArray, .agg xs.toArray] w fun e w' => e = .returned (.bool true) ∧ Below w.heap.size w w' := by
  obtain ⟨rfl, hn⟩ := hn
  obtain ⟨rfl, hx⟩ := hx
  rw [show n.cs.toList.toArray = n.cs by simp, show x.vals.toList.toArray = x.vals by simp]
  have HN := Lib.hid (fun w => newMeter_any n w hn)
  obtain ⟨hok, hmay⟩ := n.good
  obtain ⟨l0, l1, l2, l3⟩ := n.lim
  obtain ⟨y, hy⟩ : ∃ y : Tk, y = { x with cl := 0 } := ⟨_, rfl⟩
  have hyok : y.ok := by rw [hy]; exact ⟨⟨⟨by show -9223372036854775808 ≤ (0 : Int); omega, by show (0 : Int) ≤ 9223372036854775807; omega⟩, hx.1.2⟩, hx.2⟩
  have HS := Lib.hid (fun w => sold_nil n.mt y w l0 l1 hyok)
  have hkp := kept_nil n.mt y l0 l1
  have hlim := sold_lim [] n.mt.me n.mt.rev y Kept.nil.good
  have hver := sold_ver n.mt y
  have hgood := soldT_good [] n.mt.me n.mt.rev y Kept.nil.good
  have hcl : (soldT [] n.mt.me n.mt.rev y).cl = 0 := by rw [hy]; rfl
  generalize soldT [] n.mt.me n.mt.rev y = t at *
  generalize issL [] n.mt.me n.mt.rev (bodyI (madeT y)) (madeT y).tag = ps at *
  have HK := Lib.hid (fun A c w hr => key_yes n.mt ps t A c w hok hmay hr hkp.ok hkp.good)
  have hR : keyR n.mt ps t = if n.mt.cr + t.am > 99999999 then (n.mt, 0, 15) else ({ n.mt with cr := n.mt.cr + t.am, wh := takeH n.mt.wh t.id, wb := takeB n.mt.wh n.mt.wb t.id, bad := 0 }, t.am, 0) := by
    rw [key_sold n.mt ps t hgood rfl (by omega) l1.1 hver, take_credit n.mt t (judge_new t.id hlim.1.1) hcl]
  generalize keyR n.mt ps t = R at *
  obtain ⟨M, rad, rc⟩ := R
  have hmt : n.mt.wh = 0 ∧ n.mt.wb = 0 ∧ n.mt.lock = 0 := ⟨rfl, rfl, rfl⟩
  obtain ⟨e1, e2, e3⟩ := hmt
  generalize n.mt = m at *
  obtain ⟨⟨i0, i1⟩, ⟨a0, a1⟩, a2⟩ := hlim
  clear hok hmay hn hver hgood hkp hyok hx
  obtain ⟨me, rev, cr, wh, wb, bad, lock⟩ := m
  obtain ⟨na, nb, nc, nd⟩ := n
  obtain ⟨xc, xi, xa, xt⟩ := x
  obtain ⟨cl, id, am, tag⟩ := t
  simp only at *
  subst hy e1 e2 e3 hcl
  unfold Mt.vals Tk.vals Nw.cs at *
  simp only at *
  by_cases hfull : cr + am > 99999999
  · rw [if_pos hfull] at hR
    injection hR with h1 h2
    injection h2 with h2 h3
    subst h1 h2 h3
    go_enter Try.func9, Try.ntmps9
    go_wp2_with (fail)
    go_at_call 24
    refine (HN.out _).mono ?_
    rintro e w1 ⟨rfl, hb⟩
    obtain ⟨bc, bf⟩ := bcell hb
    have hz1 := hb.size
    simp at hz1
    have HB1 := Lib.hid (below_then' (blw_alloc (blw_alloc (Below.refl _ _) _) _) hb)
    have lt0 : w.heap.size + 1 < w1.heap.size := by omega
    have xg0 : w1.cell? ⟨w.heap.size + 1, 0, none⟩ = some (.int .i64 xc) := by rw [bc _ _ (by simp <;> omega)]; go_simp
    have xf0 : w1.frozen? ⟨w.heap.size + 1, 0, none⟩ = false := by rw [bf _ _ (by simp <;> omega)]; go_simp
    have xg1 : w1.cell? ⟨w.heap.size + 1, 1, none⟩ = some (.int .i64 xi) := by rw [bc _ _ (by simp <;> omega)]; go_simp
    have xf1 : w1.frozen? ⟨w.heap.size + 1, 1, none⟩ = false := by rw [bf _ _ (by simp <;> omega)]; go_simp
    have xg2 : w1.cell? ⟨w.heap.size + 1, 2, none⟩ = some (.int .i64 xa) := by rw [bc _ _ (by simp <;> omega)]; go_simp
    have xf2 : w1.frozen? ⟨w.heap.size + 1, 2, none⟩ = false := by rw [bf _ _ (by simp <;> omega)]; go_simp
    have xg3 : w1.cell? ⟨w.heap.size + 1, 3, none⟩ = some (.int .i64 xt) := by rw [bc _ _ (by simp <;> omega)]; go_simp
    have xf3 : w1.frozen? ⟨w.heap.size + 1, 3, none⟩ = false := by rw [bf _ _ (by simp <;> omega)]; go_simp
    clear hb bc bf
    go_wp2_with (fail)
    go_at_call 25
    refine (HS.out _).mono ?_
    rintro e w2 ⟨B, q, rfl, ho, hb⟩
    obtain ⟨bc, bf⟩ := bcell hb
    have hz2 := hb.size
    simp at hz2
    have HO2 := Lib.hid ho
    have HB2 := Lib.hid ((blw_alloc (HB1.out.setCell (p := ⟨w.heap.size + 1, 0, none⟩) (by simp) (.int .i64 0)) (.cells #[.int .i64 me, .int .i64 rev, .int .i64 cr, .int .i64 0, .int .u64 0, .int .i64 bad, .int .i64 0] 59)).trans (hb.mono (by simp; omega)))
    have lt1 : w1.heap.size < w2.heap.size := by omega
    have mg0 : w2.cell? ⟨w1.heap.size, 0, none⟩ = some (.int .i64 me) := by rw [bc _ _ (by simp <;> omega)]; go_simp
    have mg1 : w2.cell? ⟨w1.heap.size, 1, none⟩ = some (.int .i64 rev) := by rw [bc _ _ (by simp <;> omega)]; go_simp
    have mg2 : w2.cell? ⟨w1.heap.size, 2, none⟩ = some (.int .i64 cr) := by rw [bc _ _ (by simp <;> omega)]; go_simp
    have mg3 : w2.cell? ⟨w1.heap.size, 3, none⟩ = some (.int .i64 0) := by rw [bc _ _ (by simp <;> omega)]; go_simp
    have mg4 : w2.cell? ⟨w1.heap.size, 4, none⟩ = some (.int .u64 0) := by rw [bc _ _ (by simp <;> omega)]; go_simp
    have mg5 : w2.cell? ⟨w1.heap.size, 5, none⟩ = some (.int .i64 bad) := by rw [bc _ _ (by simp <;> omega)]; go_simp
    have mg6 : w2.cell? ⟨w1.heap.size, 6, none⟩ = some (.int .i64 0) := by rw [bc _ _ (by simp <;> omega)]; go_simp
    clear hb bc bf ho xg0 xf0 xg1 xf1 xg2 xf2 xg3 xf3
    have HRD := Lib.hid (World.ownsRow.alloc (World.ownsRow.alloc HO2.out (.cells #[.slice B ps.length q] 62)) (.cells #[.int .i64 0, .int .i64 id, .int .i64 am, .int .i64 tag] 64) |> OwPr.read)
    go_wp2_with (fail)
    go_at_call 23
    refine (HK.out _ _ _ HRD.out).mono ?_
    rintro e w3 ⟨rfl, hb⟩
    obtain ⟨bc, bf⟩ := bcell hb
    have hz3 := hb.size
    simp at hz3
    have HB3 := Lib.hid (below_then' (blw_alloc (blw_alloc HB2.out _) _) hb)
    have lt2 : w1.heap.size < w3.heap.size := by omega
    have lt3 : w2.heap.size + 1 < w3.heap.size := by omega
    have ng0 : w3.cell? ⟨w1.heap.size, 0, none⟩ = some (.int .i64 me) := by rw [bc _ _ (by simp <;> omega)]; go_simp
    have ng1 : w3.cell? ⟨w1.heap.size, 1, none⟩ = some (.int .i64 rev) := by rw [bc _ _ (by simp <;> omega)]; go_simp
    have ng2 : w3.cell? ⟨w1.heap.size, 2, none⟩ = some (.int .i64 cr) := by rw [bc _ _ (by simp <;> omega)]; go_simp
    have ng3 : w3.cell? ⟨w1.heap.size, 3, none⟩ = some (.int .i64 0) := by rw [bc _ _ (by simp <;> omega)]; go_simp
    have ng4 : w3.cell? ⟨w1.heap.size, 4, none⟩ = some (.int .u64 0) := by rw [bc _ _ (by simp <;> omega)]; go_simp
    have ng5 : w3.cell? ⟨w1.heap.size, 5, none⟩ = some (.int .i64 bad) := by rw [bc _ _ (by simp <;> omega)]; go_simp
    have ng6 : w3.cell? ⟨w1.heap.size, 6, none⟩ = some (.int .i64 0) := by rw [bc _ _ (by simp <;> omega)]; go_simp
    have tg0 : w3.cell? ⟨w2.heap.size + 1, 0, none⟩ = some (.int .i64 0) := by rw [bc _ _ (by simp <;> omega)]; go_simp
    have tg1 : w3.cell? ⟨w2.heap.size + 1, 1, none⟩ = some (.int .i64 id) := by rw [bc _ _ (by simp <;> omega)]; go_simp
    have tg2 : w3.cell? ⟨w2.heap.size + 1, 2, none⟩ = some (.int .i64 am) := by rw [bc _ _ (by simp <;> omega)]; go_simp
    have tg3 : w3.cell? ⟨w2.heap.size + 1, 3, none⟩ = some (.int .i64 tag) := by rw [bc _ _ (by simp <;> omega)]; go_simp
    clear hb bc bf mg0 mg1 mg2 mg3 mg4 mg5 mg6
    go_wp2
    go_ret
    exact ⟨by first | rfl | exact ret_bool (by simp), blw_alloc HB3.out _⟩
  · rw [if_neg hfull] at hR
    injection hR with h1 h2
    injection h2 with h2 h3
    replace h2 := h2.symm
    subst h1 h2 h3
    generalize takeH 0 id = nh at *
    generalize takeB 0 0 id = nb at *
    go_enter Try.func9, Try.ntmps9
    go_wp2_with (fail)
    go_at_call 24
    refine (HN.out _).mono ?_
    rintro e w1 ⟨rfl, hb⟩
    obtain ⟨bc, bf⟩ := bcell hb
    have hz1 := hb.size
    simp at hz1
    have HB1 := Lib.hid (below_then' (blw_alloc (blw_alloc (Below.refl _ _) _) _) hb)
    have lt0 : w.heap.size + 1 < w1.heap.size := by omega
    have xg0 : w1.cell? ⟨w.heap.size + 1, 0, none⟩ = some (.int .i64 xc) := by rw [bc _ _ (by simp <;> omega)]; go_simp
    have xf0 : w1.frozen? ⟨w.heap.size + 1, 0, none⟩ = false := by rw [bf _ _ (by simp <;> omega)]; go_simp
    have xg1 : w1.cell? ⟨w.heap.size + 1, 1, none⟩ = some (.int .i64 xi) := by rw [bc _ _ (by simp <;> omega)]; go_simp
    have xf1 : w1.frozen? ⟨w.heap.size + 1, 1, none⟩ = false := by rw [bf _ _ (by simp <;> omega)]; go_simp
    have xg2 : w1.cell? ⟨w.heap.size + 1, 2, none⟩ = some (.int .i64 xa) := by rw [bc _ _ (by simp <;> omega)]; go_simp
    have xf2 : w1.frozen? ⟨w.heap.size + 1, 2, none⟩ = false := by rw [bf _ _ (by simp <;> omega)]; go_simp
    have xg3 : w1.cell? ⟨w.heap.size + 1, 3, none⟩ = some (.int .i64 xt) := by rw [bc _ _ (by simp <;> omega)]; go_simp
    have xf3 : w1.frozen? ⟨w.heap.size + 1, 3, none⟩ = false := by rw [bf _ _ (by simp <;> omega)]; go_simp
    clear hb bc bf
    go_wp2_with (fail)
    go_at_call 25
    refine (HS.out _).mono ?_
    rintro e w2 ⟨B, q, rfl, ho, hb⟩
    obtain ⟨bc, bf⟩ := bcell hb
    have hz2 := hb.size
    simp at hz2
    have HO2 := Lib.hid ho
    have HB2 := Lib.hid ((blw_alloc (HB1.out.setCell (p := ⟨w.heap.size + 1, 0, none⟩) (by simp) (.int .i64 0)) (.cells #[.int .i64 me, .int .i64 rev, .int .i64 cr, .int .i64 0, .int .u64 0, .int .i64 bad, .int .i64 0] 59)).trans (hb.mono (by simp; omega)))
    have lt1 : w1.heap.size < w2.heap.size := by omega
    have mg0 : w2.cell? ⟨w1.heap.size, 0, none⟩ = some (.int .i64 me) := by rw [bc _ _ (by simp <;> omega)]; go_simp
    have mg1 : w2.cell? ⟨w1.heap.size, 1, none⟩ = some (.int .i64 rev) := by rw [bc _ _ (by simp <;> omega)]; go_simp
    have mg2 : w2.cell? ⟨w1.heap.size, 2, none⟩ = some (.int .i64 cr) := by rw [bc _ _ (by simp <;> omega)]; go_simp
    have mg3 : w2.cell? ⟨w1.heap.size, 3, none⟩ = some (.int .i64 0) := by rw [bc _ _ (by simp <;> omega)]; go_simp
    have mg4 : w2.cell? ⟨w1.heap.size, 4, none⟩ = some (.int .u64 0) := by rw [bc _ _ (by simp <;> omega)]; go_simp
    have mg5 : w2.cell? ⟨w1.heap.size, 5, none⟩ = some (.int .i64 bad) := by rw [bc _ _ (by simp <;> omega)]; go_simp
    have mg6 : w2.cell? ⟨w1.heap.size, 6, none⟩ = some (.int .i64 0) := by rw [bc _ _ (by simp <;> omega)]; go_simp
    clear hb bc bf ho xg0 xf0 xg1 xf1 xg2 xf2 xg3 xf3
    have HRD := Lib.hid (World.ownsRow.alloc (World.ownsRow.alloc HO2.out (.cells #[.slice B ps.length q] 62)) (.cells #[.int .i64 0, .int .i64 id, .int .i64 am, .int .i64 tag] 64) |> OwPr.read)
    go_wp2_with (fail)
    go_at_call 23
    refine (HK.out _ _ _ HRD.out).mono ?_
    rintro e w3 ⟨rfl, hb⟩
    obtain ⟨bc, bf⟩ := bcell hb
    have hz3 := hb.size
    simp at hz3
    have HB3 := Lib.hid (below_then' (blw_alloc (blw_alloc HB2.out _) _) hb)
    have lt2 : w1.heap.size < w3.heap.size := by omega
    have lt3 : w2.heap.size + 1 < w3.heap.size := by omega
    have ng0 : w3.cell? ⟨w1.heap.size, 0, none⟩ = some (.int .i64 me) := by rw [bc _ _ (by simp <;> omega)]; go_simp
    have ng1 : w3.cell? ⟨w1.heap.size, 1, none⟩ = some (.int .i64 rev) := by rw [bc _ _ (by simp <;> omega)]; go_simp
    have ng2 : w3.cell? ⟨w1.heap.size, 2, none⟩ = some (.int .i64 cr) := by rw [bc _ _ (by simp <;> omega)]; go_simp
    have ng3 : w3.cell? ⟨w1.heap.size, 3, none⟩ = some (.int .i64 0) := by rw [bc _ _ (by simp <;> omega)]; go_simp
    have ng4 : w3.cell? ⟨w1.heap.size, 4, none⟩ = some (.int .u64 0) := by rw [bc _ _ (by simp <;> omega)]; go_simp
    have ng5 : w3.cell? ⟨w1.heap.size, 5, none⟩ = some (.int .i64 bad) := by rw [bc _ _ (by simp <;> omega)]; go_simp
    have ng6 : w3.cell? ⟨w1.heap.size, 6, none⟩ = some (.int .i64 0) := by rw [bc _ _ (by simp <;> omega)]; go_simp
    have tg0 : w3.cell? ⟨w2.heap.size + 1, 0, none⟩ = some (.int .i64 0) := by rw [bc _ _ (by simp <;> omega)]; go_simp
    have tg1 : w3.cell? ⟨w2.heap.size + 1, 1, none⟩ = some (.int .i64 id) := by rw [bc _ _ (by simp <;> omega)]; go_simp
    have tg2 : w3.cell? ⟨w2.heap.size + 1, 2, none⟩ = some (.int .i64 am) := by rw [bc _ _ (by simp <;> omega)]; go_simp
    have tg3 : w3.cell? ⟨w2.heap.size + 1, 3, none⟩ = some (.int .i64 tag) := by rw [bc _ _ (by simp <;> omega)]; go_simp
    clear hb bc bf mg0 mg1 mg2 mg3 mg4 mg5 mg6
    go_wp2
    go_ret
    exact ⟨by first | rfl | exact ret_bool (by simp), blw_alloc HB3.out _⟩
end Go.Proofs.Ytjfjmlcibhdilaa.MeterAdds
