/- The contract of meter.Key. -/
import Derived.Test.YtccjcdecpgigpaaDoorSt2
namespace Go.Proofs.YtccjcdecpgigpaaDoor.Met
open Go.RowKit Go.Proofs.YtccjcdecpgigpaaDoor.Base Go.Proofs.YtccjcdecpgigpaaDoor.Win Go.Proofs.YtccjcdecpgigpaaDoor.Orc Go.Proofs.YtccjcdecpgigpaaDoor.Tok
set_option linter.unusedVariables false
set_option linter.unusedSimpArgs false
set_option maxRecDepth 20000
/-- What Key answers where meter and oracle may be: the meter, what was added, the code. -/
def keyR (x : Mt) (ps : List Pr) (t : Tk) : Mt × Int × Int :=
  if faultI t ≠ 0 then (x, 0, faultI t)
  else if 0 < x.lock then (x, 0, 10)
  else if t.cl = 3 then (x, 0, 0)
  else if soldI x ps (bodyI t) t.tag ≠ 0 then (soldM x (soldI x ps (bodyI t) t.tag), 0, soldI x ps (bodyI t) t.tag)
  else takeR x t 0
/-- The cells of Key: the meter, the oracle, the token, the answer. -/
structure KF (W : World) (b : Nat) (x : Mt) (A : Option Addr) (n c : Nat) (t : Tk) : Prop where
  a0 : W.cell? ⟨b, 0, none⟩ = some (.int .i64 x.me)
  a1 : W.cell? ⟨b, 1, none⟩ = some (.int .i64 x.rev)
  a2 : W.cell? ⟨b, 2, none⟩ = some (.int .i64 x.cr)
  a3 : W.cell? ⟨b, 3, none⟩ = some (.int .i64 x.wh)
  a4 : W.cell? ⟨b, 4, none⟩ = some (.int .u64 (x.wb : Int))
  a5 : W.cell? ⟨b, 5, none⟩ = some (.int .i64 x.bad)
  a6 : W.cell? ⟨b, 6, none⟩ = some (.int .i64 x.lock)
  o0 : W.cell? ⟨b + 1, 0, none⟩ = some (.slice A n c)
  k0 : W.cell? ⟨b + 1 + 1, 0, none⟩ = some (.int .i64 t.cl)
  k1 : W.cell? ⟨b + 1 + 1, 1, none⟩ = some (.int .i64 t.id)
  k2 : W.cell? ⟨b + 1 + 1, 2, none⟩ = some (.int .i64 t.am)
  k3 : W.cell? ⟨b + 1 + 1, 3, none⟩ = some (.int .i64 t.tag)
  z0 : W.cell? ⟨b + 1 + 1 + 1, 0, none⟩ = some (.int .i64 0)
  z1 : W.cell? ⟨b + 1 + 1 + 1, 1, none⟩ = some (.int .i64 0)
  z2 : W.cell? ⟨b + 1 + 1 + 1, 2, none⟩ = some (.int .i64 0)
  z3 : W.cell? ⟨b + 1 + 1 + 1, 3, none⟩ = some (.int .i64 0)
  z4 : W.cell? ⟨b + 1 + 1 + 1, 4, none⟩ = some (.int .u64 0)
  z5 : W.cell? ⟨b + 1 + 1 + 1, 5, none⟩ = some (.int .i64 0)
  z6 : W.cell? ⟨b + 1 + 1 + 1, 6, none⟩ = some (.int .i64 0)
  y0 : W.frozen? ⟨b + 1 + 1 + 1, 0, none⟩ = false
  y1 : W.frozen? ⟨b + 1 + 1 + 1, 1, none⟩ = false
  y2 : W.frozen? ⟨b + 1 + 1 + 1, 2, none⟩ = false
  y3 : W.frozen? ⟨b + 1 + 1 + 1, 3, none⟩ = false
  y4 : W.frozen? ⟨b + 1 + 1 + 1, 4, none⟩ = false
  y5 : W.frozen? ⟨b + 1 + 1 + 1, 5, none⟩ = false
  y6 : W.frozen? ⟨b + 1 + 1 + 1, 6, none⟩ = false
theorem KF.kept {W W1 : World} {b : Nat} {x : Mt} {A : Option Addr} {n c : Nat} {t : Tk} (h : KF W b x A n c t) {B : Nat} (hb : Below B W W1) (hB : b + 1 + 1 + 1 < B) : KF W1 b x A n c t where
  a0 := (hb.cell (p := ⟨b, 0, none⟩) (by simp; omega)).trans h.a0
  a1 := (hb.cell (p := ⟨b, 1, none⟩) (by simp; omega)).trans h.a1
  a2 := (hb.cell (p := ⟨b, 2, none⟩) (by simp; omega)).trans h.a2
  a3 := (hb.cell (p := ⟨b, 3, none⟩) (by simp; omega)).trans h.a3
  a4 := (hb.cell (p := ⟨b, 4, none⟩) (by simp; omega)).trans h.a4
  a5 := (hb.cell (p := ⟨b, 5, none⟩) (by simp; omega)).trans h.a5
  a6 := (hb.cell (p := ⟨b, 6, none⟩) (by simp; omega)).trans h.a6
  o0 := (hb.cell (p := ⟨b + 1, 0, none⟩) (by simp; omega)).trans h.o0
  k0 := (hb.cell (p := ⟨b + 1 + 1, 0, none⟩) (by simp; omega)).trans h.k0
  k1 := (hb.cell (p := ⟨b + 1 + 1, 1, none⟩) (by simp; omega)).trans h.k1
  k2 := (hb.cell (p := ⟨b + 1 + 1, 2, none⟩) (by simp; omega)).trans h.k2
  k3 := (hb.cell (p := ⟨b + 1 + 1, 3, none⟩) (by simp; omega)).trans h.k3
  z0 := (hb.cell (p := ⟨b + 1 + 1 + 1, 0, none⟩) (by simp; omega)).trans h.z0
  z1 := (hb.cell (p := ⟨b + 1 + 1 + 1, 1, none⟩) (by simp; omega)).trans h.z1
  z2 := (hb.cell (p := ⟨b + 1 + 1 + 1, 2, none⟩) (by simp; omega)).trans h.z2
  z3 := (hb.cell (p := ⟨b + 1 + 1 + 1, 3, none⟩) (by simp; omega)).trans h.z3
  z4 := (hb.cell (p := ⟨b + 1 + 1 + 1, 4, none⟩) (by simp; omega)).trans h.z4
  z5 := (hb.cell (p := ⟨b + 1 + 1 + 1, 5, none⟩) (by simp; omega)).trans h.z5
  z6 := (hb.cell (p := ⟨b + 1 + 1 + 1, 6, none⟩) (by simp; omega)).trans h.z6
  y0 := (hb.frozen (p := ⟨b + 1 + 1 + 1, 0, none⟩) (by simp; omega)).trans h.y0
  y1 := (hb.frozen (p := ⟨b + 1 + 1 + 1, 1, none⟩) (by simp; omega)).trans h.y1
  y2 := (hb.frozen (p := ⟨b + 1 + 1 + 1, 2, none⟩) (by simp; omega)).trans h.y2
  y3 := (hb.frozen (p := ⟨b + 1 + 1 + 1, 3, none⟩) (by simp; omega)).trans h.y3
  y4 := (hb.frozen (p := ⟨b + 1 + 1 + 1, 4, none⟩) (by simp; omega)).trans h.y4
  y5 := (hb.frozen (p := ⟨b + 1 + 1 + 1, 5, none⟩) (by simp; omega)).trans h.y5
  y6 := (hb.frozen (p := ⟨b + 1 + 1 + 1, 6, none⟩) (by simp; omega)).trans h.y6
theorem set7 {B b : Nat} {w W : World} (h : Below B w W) (hb : B ≤ b) (u0 u1 u2 u3 u4 u5 u6 : Value) :
    Below B w (((((((W.setCell ⟨b, 0, none⟩ u0).setCell ⟨b, 1, none⟩ u1).setCell ⟨b, 2, none⟩ u2).setCell ⟨b, 3, none⟩ u3).setCell ⟨b, 4, none⟩ u4).setCell ⟨b, 5, none⟩ u5).setCell ⟨b, 6, none⟩ u6) :=
  ((((((h.setCell (p := ⟨b, 0, none⟩) hb _).setCell (p := ⟨b, 1, none⟩) hb _).setCell (p := ⟨b, 2, none⟩) hb _).setCell (p := ⟨b, 3, none⟩) hb _).setCell (p := ⟨b, 4, none⟩) hb _).setCell (p := ⟨b, 5, none⟩) hb _).setCell (p := ⟨b, 6, none⟩) hb _
theorem mmay_lim {x : Mt} (h : mmay x = true) : x.c1 ∧ x.c2 ∧ wmay x.wh x.wb = true := by
  unfold mmay at h
  simp at h
  exact h
theorem body_lim {t : Tk} (h : faultI t = 0) : Orc.i64 (bodyI t) ∧ 0 ≤ bodyI t ∧ bodyI t ≤ 8796093022207 := by
  obtain ⟨⟨c0, c1⟩, ⟨i0, i1⟩, ⟨a0, a1⟩, g0, g1⟩ := fault_ok h
  have l0 : 0 ≤ amLo t.cl := by unfold amLo; split <;> omega
  have l1 : amHi t.cl ≤ 2097151 := by unfold amHi; split <;> (try split) <;> omega
  unfold bodyI Orc.i64
  omega
set_option maxHeartbeats 4000000 in
theorem key_yes (x : Mt) (ps : List Pr) (t : Tk) (A : Option Addr) (c : Nat) (w : World) (hx : x.ok) (hm : mmay x = true) (hr : RdE 4 Pr.enc w A ps) (hk : ∀ p ∈ ps, p.ok) (hg : Orc.Good ps) :
    Calls Tryd.prog 34 #[.agg x.vals, .agg #[.slice A ps.length c], .agg t.vals] w fun e w' => e = .returned (.tuple #[.agg (keyR x ps t).1.vals, .int .i64 (keyR x ps t).2.1, .int .i64 (keyR x ps t).2.2]) ∧ Below w.heap.size w w' := by
  have hmay := fun w => mmay_any x w hx
  rw [hm] at hmay
  have HM := Lib.hid hmay
  have HO := Lib.hid (fun w hr => may_yes ps A c w hr hk hg)
  have HR := Lib.hid hr
  have HBD := Lib.hid (fun w => body_any t w)
  obtain ⟨R, hR⟩ : ∃ R, R = keyR x ps t := ⟨_, rfl⟩
  rw [← hR]
  unfold keyR at hR
  have HRR := Lib.hid hR
  obtain ⟨⟨⟨l0, l1⟩, ⟨l2, l3⟩, l4, l5⟩, ⟨⟨l6, l7⟩, ⟨l8, l9⟩, _⟩, hwm⟩ := mmay_lim hm
  have HWM := Lib.hid hwm
  have HX := Lib.hid hx.2.1.2
  have HK := Lib.hid hk
  have HG := Lib.hid hg
  obtain ⟨fe, hfe⟩ : ∃ f, f = faultI t := ⟨_, rfl⟩
  rw [← hfe] at HBD HRR
  obtain ⟨bd, hbd⟩ : ∃ f, f = bodyI t := ⟨_, rfl⟩
  rw [← hbd] at HBD HRR
  have HFE := Lib.hid hfe
  have HBY := Lib.hid hbd
  clear hmay hm hr hk hg hR hwm hfe hbd hx
  obtain ⟨me, rev, cr, wh, wb, bad, lock⟩ := x
  obtain ⟨cl, id, am, tag⟩ := t
  unfold Mt.vals Tk.vals
  unfold Mt.vals at HM
  unfold Tk.vals at HBD
  simp only at *
  go_enter Tryd.func34, Tryd.ntmps34
  go_wp2_with (fail)
  go_at_call 74
  refine (HM.out _).mono ?_
  rintro e w1 ⟨rfl, hb⟩
  have hkf : KF w1 w.heap.size ⟨me, rev, cr, wh, wb, bad, lock⟩ A ps.length c ⟨cl, id, am, tag⟩ := KF.kept (by constructor <;> go_simp) hb (by simp)
  have hz1 := hb.size
  simp at hz1
  have KF1 := Lib.hid hkf
  have HB := Lib.hid (below_then' (blw_alloc (blw_alloc (blw_alloc (blw_alloc (Below.refl _ _) _) _) _) _) hb)
  have o0 := hkf.o0
  clear hb hkf
  go_wp2_with (fail)
  go_at_call 75
  refine (HO.out _ (HR.out.below HB.out)).mono ?_
  rintro e w2 ⟨rfl, hb⟩
  have hz2 := hb.size
  have hkf := KF1.out.kept hb (by omega)
  have KF2 := Lib.hid hkf
  have HB2 := Lib.hid (below_then HB.out HB.out.size hb)
  have k0 := hkf.k0
  have k1 := hkf.k1
  have k2 := hkf.k2
  have k3 := hkf.k3
  clear hkf
  clear hb o0
  go_wp2_with (fail)
  go_at_call 72
  refine (HBD.out _).mono ?_
  rintro e w3 ⟨rfl, hb⟩
  have hz3 := hb.size
  have hkf := KF2.out.kept hb (by omega)
  have KF3 := Lib.hid hkf
  have HB3 := Lib.hid (below_then HB2.out HB2.out.size hb)
  clear k0 k1 k2 k3 hb
  obtain ⟨a0, a1, a2, a3, a4, a5, a6, o0, k0, k1, k2, k3, z0, z1, z2, z3, z4, z5, z6, y0, y1, y2, y3, y4, y5, y6⟩ := hkf
  have lt3 : w.heap.size + 1 + 1 + 1 < w3.heap.size := by omega
  have lt2 : w.heap.size + 1 + 1 < w3.heap.size := by omega
  have lt1 : w.heap.size + 1 < w3.heap.size := by omega
  have lt0 : w.heap.size < w3.heap.size := by omega
  by_cases hfe : fe = 0
  · rw [if_pos hfe]
    subst hfe
    by_cases hlk : 0 < lock
    · have hR : R = (⟨me, rev, cr, wh, wb, bad, lock⟩, 0, 10) := by rw [HRR.out, if_neg (by simp), if_pos hlk]
      have HR1 := Lib.hid hR
      clear hR
      go_wp2
      refine bodyPost_ret (v := .tuple #[.agg #[.int .i64 me, .int .i64 rev, .int .i64 cr, .int .i64 wh, .int .u64 (wb : Int), .int .i64 bad, .int .i64 lock], .int .i64 0, .int .i64 10]) (by simp [results, Tryd.results34, go_sem, z0, z1, z2, z3, z4, z5, z6]) rfl ⟨by rw [HR1.out], ?_⟩
      exact set7 HB3.out (by omega) _ _ _ _ _ _ _
    · by_cases hc3 : cl = 3
      · have hR : R = (⟨me, rev, cr, wh, wb, bad, lock⟩, 0, 0) := by rw [HRR.out, if_neg (by simp), if_neg hlk, if_pos hc3]
        have HR1 := Lib.hid hR
        subst hc3
        clear hR
        go_wp2
        refine bodyPost_ret (v := .tuple #[.agg #[.int .i64 me, .int .i64 rev, .int .i64 cr, .int .i64 wh, .int .u64 (wb : Int), .int .i64 bad, .int .i64 lock], .int .i64 0, .int .i64 0]) (by simp [results, Tryd.results34, go_sem, z0, z1, z2, z3, z4, z5, z6]) rfl ⟨by rw [HR1.out], ?_⟩
        exact set7 HB3.out (by omega) _ _ _ _ _ _ _
      · have hc3' : (cl == 3) = false := beq_eq_false_iff_ne.mpr hc3
        go_wp2_with (fail)
        obtain ⟨_, bd0, bd1⟩ := body_lim (t := ⟨cl, id, am, tag⟩) HFE.out.symm
        rw [← HBY.out] at bd0 bd1
        have hst : St (w3.alloc (.cells #[.int .i64 me, .int .i64 rev, .int .i64 cr, .int .i64 wh, .int .u64 (wb : Int), .int .i64 bad, .int .i64 lock, .int .i64 0] 162)) w3.heap.size ⟨me, rev, cr, wh, wb, bad, lock⟩ 0 := by constructor <;> go_simp
        go_at_call 76
        refine (st_sold w3.heap.size ⟨me, rev, cr, wh, wb, bad, lock⟩ 0 ps A c bd tag _ hst (by simp) ((HR.out.below HB3.out).below (blw_alloc (Below.refl _ _) _)) HK.out HG.out ⟨l0, l1⟩ l2 l3 (by unfold Orc.i64; omega) l6 l7).mono ?_
        rintro e w4 ⟨rfl, hst4, hb⟩
        have hb4 := ((Below.refl w3.heap.size w3).alloc (Nat.le_refl _) _).trans hb
        have KF4 := Lib.hid (KF3.out.kept hb4 lt3)
        have HB4 := Lib.hid (HB3.out.trans (hb4.mono (Nat.le_of_lt lt0)))
        have hz4 := hb.size
        simp at hz4
        obtain ⟨cd, hcd⟩ : ∃ cd, cd = soldI ⟨me, rev, cr, wh, wb, bad, lock⟩ ps bd tag := ⟨_, rfl⟩
        rw [← hcd] at hst4 HRR
        rw [← hcd]
        have HST4 := Lib.hid hst4
        clear hcd a0 a1 a2 a3 a4 a5 a6 o0 k0 k1 k2 k3 z0 z1 z2 z3 z4 z5 z6 y0 y1 y2 y3 y4 y5 y6 hb hb4 hst hst4
        by_cases hcd : cd = 0
        · subst hcd
          have hR : R = takeR ⟨me, rev, cr, wh, wb, bad, lock⟩ ⟨cl, id, am, tag⟩ 0 := by rw [HRR.out, if_neg (by simp), if_neg (Int.not_lt.2 hlk), if_neg hc3, if_neg (by simp)]
          have HR1 := Lib.hid hR
          obtain ⟨s0, s1, s2, s3, s4, s5, s6, s7, t0, t1, t2, t3, t4, t5, t6, t7⟩ := HST4.out
          have k0 := KF4.out.k0
          have k1 := KF4.out.k1
          have k2 := KF4.out.k2
          have k3 := KF4.out.k3
          have HT := Lib.hid (st_take w3.heap.size ⟨me, rev, cr, wh, wb, bad, lock⟩ 0 ⟨cl, id, am, tag⟩ w4 HST4.out (by omega) HX.out HWM.out HFE.out.symm hc3 l4 l5)
          clear s0 s1 s2 s3 s4 s5 s6 s7 t0 t1 t2 t3 t4 t5 t6 t7 hR
          go_wp2_with (fail)
          go_at_call 77
          refine HT.out.mono ?_
          rintro e w5 ⟨rfl, hst5, hb⟩
          have hz5 := hb.size
          have KFF := Lib.hid (KF4.out.kept hb lt3)
          have HBF := Lib.hid (HB4.out.trans (hb.mono (Nat.le_of_lt lt0)))
          rw [← HR1.out] at hst5 ⊢
          obtain ⟨M, rad, rc⟩ := R
          have HSF := Lib.hid hst5
          clear k0 k1 k2 k3 hb hst5 HR1
          have lt4 : w.heap.size + 1 + 1 + 1 < w5.heap.size := by omega
          simp only at *
          obtain ⟨s0, s1, s2, s3, s4, s5, s6, s7, t0, t1, t2, t3, t4, t5, t6, t7⟩ := HSF.out
          have z0 := KFF.out.z0
          have z1 := KFF.out.z1
          have z2 := KFF.out.z2
          have z3 := KFF.out.z3
          have z4 := KFF.out.z4
          have z5 := KFF.out.z5
          have z6 := KFF.out.z6
          have y0 := KFF.out.y0
          have y1 := KFF.out.y1
          have y2 := KFF.out.y2
          have y3 := KFF.out.y3
          have y4 := KFF.out.y4
          have y5 := KFF.out.y5
          have y6 := KFF.out.y6
          go_wp2
          have n1 : w.heap.size + 1 + 1 + 1 ≠ w3.heap.size := by omega
          have n2 : w3.heap.size ≠ w.heap.size + 1 + 1 + 1 := by omega
          go_region_held3 (fun w' => w'.cell? ⟨w3.heap.size, 0, none⟩ = some (.int .i64 M.me) ∧ w'.cell? ⟨w3.heap.size, 1, none⟩ = some (.int .i64 M.rev) ∧ w'.cell? ⟨w3.heap.size, 2, none⟩ = some (.int .i64 M.cr) ∧ w'.cell? ⟨w3.heap.size, 3, none⟩ = some (.int .i64 M.wh) ∧ w'.cell? ⟨w3.heap.size, 4, none⟩ = some (.int .u64 (M.wb : Int)) ∧ w'.cell? ⟨w3.heap.size, 5, none⟩ = some (.int .i64 M.bad) ∧ w'.cell? ⟨w3.heap.size, 6, none⟩ = some (.int .i64 M.lock) ∧ w'.cell? ⟨w3.heap.size, 7, none⟩ = some (.int .i64 rad)) (go_keep) (fail)
          all_goals
            go_wp2
            refine bodyPost_ret (v := .tuple #[.agg #[.int .i64 M.me, .int .i64 M.rev, .int .i64 M.cr, .int .i64 M.wh, .int .u64 (M.wb : Int), .int .i64 M.bad, .int .i64 M.lock], .int .i64 rad, .int .i64 rc]) (by simp [results, Tryd.results34, go_sem, z0, z1, z2, z3, z4, z5, z6]) rfl ⟨rfl, ?_⟩
            with_reducible refine Below.drew ?_
            exact set7 HBF.out (by omega) _ _ _ _ _ _ _
        · have hcd' : (cd == 0) = false := beq_eq_false_iff_ne.mpr hcd
          have hR : R = (soldM ⟨me, rev, cr, wh, wb, bad, lock⟩ cd, 0, cd) := by rw [HRR.out, if_neg (by simp), if_neg (Int.not_lt.2 hlk), if_neg hc3, if_pos hcd]
          generalize soldM ⟨me, rev, cr, wh, wb, bad, lock⟩ cd = M at *
          have HR1 := Lib.hid hR
          have HSF := HST4
          have KFF := KF4
          clear hR hcd
          have lt4 : w.heap.size + 1 + 1 + 1 < w4.heap.size := by omega
          obtain ⟨s0, s1, s2, s3, s4, s5, s6, s7, t0, t1, t2, t3, t4, t5, t6, t7⟩ := HSF.out
          have z0 := KFF.out.z0
          have z1 := KFF.out.z1
          have z2 := KFF.out.z2
          have z3 := KFF.out.z3
          have z4 := KFF.out.z4
          have z5 := KFF.out.z5
          have z6 := KFF.out.z6
          have y0 := KFF.out.y0
          have y1 := KFF.out.y1
          have y2 := KFF.out.y2
          have y3 := KFF.out.y3
          have y4 := KFF.out.y4
          have y5 := KFF.out.y5
          have y6 := KFF.out.y6
          go_wp2
          have n1 : w.heap.size + 1 + 1 + 1 ≠ w3.heap.size := by omega
          have n2 : w3.heap.size ≠ w.heap.size + 1 + 1 + 1 := by omega
          go_region_held3 (fun w' => w'.cell? ⟨w3.heap.size, 0, none⟩ = some (.int .i64 M.me) ∧ w'.cell? ⟨w3.heap.size, 1, none⟩ = some (.int .i64 M.rev) ∧ w'.cell? ⟨w3.heap.size, 2, none⟩ = some (.int .i64 M.cr) ∧ w'.cell? ⟨w3.heap.size, 3, none⟩ = some (.int .i64 M.wh) ∧ w'.cell? ⟨w3.heap.size, 4, none⟩ = some (.int .u64 (M.wb : Int)) ∧ w'.cell? ⟨w3.heap.size, 5, none⟩ = some (.int .i64 M.bad) ∧ w'.cell? ⟨w3.heap.size, 6, none⟩ = some (.int .i64 M.lock) ∧ w'.cell? ⟨w3.heap.size, 7, none⟩ = some (.int .i64 0)) (go_keep) (fail)
          all_goals
            go_wp2
            refine bodyPost_ret (v := .tuple #[.agg #[.int .i64 M.me, .int .i64 M.rev, .int .i64 M.cr, .int .i64 M.wh, .int .u64 (M.wb : Int), .int .i64 M.bad, .int .i64 M.lock], .int .i64 0, .int .i64 cd]) (by simp [results, Tryd.results34, go_sem, z0, z1, z2, z3, z4, z5, z6]) rfl ⟨by rw [HR1.out], ?_⟩
            with_reducible refine Below.drew ?_
            exact set7 HB4.out (by omega) _ _ _ _ _ _ _
  · rw [if_neg hfe]
    have hfe' : (fe != 0) = true := bne_iff_ne.mpr hfe
    have hR : R = (⟨me, rev, cr, wh, wb, bad, lock⟩, 0, fe) := by rw [HRR.out, if_pos hfe]
    have HR1 := Lib.hid hR
    clear hR hfe
    go_wp2
    refine bodyPost_ret (v := .tuple #[.agg #[.int .i64 me, .int .i64 rev, .int .i64 cr, .int .i64 wh, .int .u64 (wb : Int), .int .i64 bad, .int .i64 lock], .int .i64 0, .int .i64 fe]) (by simp [results, Tryd.results34, go_sem, z0, z1, z2, z3, z4, z5, z6]) rfl ⟨by rw [HR1.out], ?_⟩
    exact set7 HB3.out (by omega) _ _ _ _ _ _ _
def zeroK : Mt := ⟨0, 0, 0, 0, 0, 0, 0⟩
theorem key_no (x : Mt) (ps : List Pr) (t : Tk) (A : Option Addr) (c : Nat) (w : World) (hx : x.ok) (hm : mmay x = false ∨ ¬ Orc.Good ps) (hr : RdE 4 Pr.enc w A ps) (hk : ∀ p ∈ ps, p.ok) :
    Calls Tryd.prog 34 #[.agg x.vals, .agg #[.slice A ps.length c], .agg t.vals] w fun e w' => e = .returned (.tuple #[.agg zeroK.vals, .int .i64 0, .int .i64 5]) ∧ Below w.heap.size w w' := by
  have hmay := fun w => mmay_any x w hx
  cases hmx : mmay x
  · rw [hmx] at hmay
    have HM := Lib.hid hmay
    clear hmay hm hmx hx hr
    obtain ⟨me, rev, cr, wh, wb, bad, lock⟩ := x
    obtain ⟨cl, id, am, tag⟩ := t
    unfold Mt.vals Tk.vals
    unfold Mt.vals at HM
    simp only at *
    go_enter Tryd.func34, Tryd.ntmps34
    go_wp2_with (fail)
    go_at_call 74
    refine (HM.out _).mono ?_
    rintro e w1 ⟨rfl, hb⟩
    have hkf : KF w1 w.heap.size ⟨me, rev, cr, wh, wb, bad, lock⟩ A ps.length c ⟨cl, id, am, tag⟩ := KF.kept (by constructor <;> go_simp) hb (by simp)
    have hz1 := hb.size
    simp at hz1
    have KF1 := Lib.hid hkf
    have HB := Lib.hid (below_then' (blw_alloc (blw_alloc (blw_alloc (blw_alloc (Below.refl _ _) _) _) _) _) hb)
    have lt3 : w.heap.size + 1 + 1 + 1 < w1.heap.size := by omega
    clear hb hkf
    have z0 := KF1.out.z0
    have z1 := KF1.out.z1
    have z2 := KF1.out.z2
    have z3 := KF1.out.z3
    have z4 := KF1.out.z4
    have z5 := KF1.out.z5
    have z6 := KF1.out.z6
    have y0 := KF1.out.y0
    have y1 := KF1.out.y1
    have y2 := KF1.out.y2
    have y3 := KF1.out.y3
    have y4 := KF1.out.y4
    have y5 := KF1.out.y5
    have y6 := KF1.out.y6
    go_wp2
    refine bodyPost_ret (v := .tuple #[.agg #[.int .i64 0, .int .i64 0, .int .i64 0, .int .i64 0, .int .u64 0, .int .i64 0, .int .i64 0], .int .i64 0, .int .i64 5]) (by simp [results, Tryd.results34, go_sem, z0, z1, z2, z3, z4, z5, z6]) rfl ⟨rfl, ?_⟩
    exact set7 HB.out (by omega) _ _ _ _ _ _ _
  · rw [hmx] at hmay
    have hng : ¬ Orc.Good ps := by rcases hm with h | h; (rw [hmx] at h; cases h); exact h
    have HM := Lib.hid hmay
    have HO := Lib.hid (fun w hr => may_no ps A c w hr hk hng)
    have HR := Lib.hid hr
    clear hmay hm hmx hx hr hng
    obtain ⟨me, rev, cr, wh, wb, bad, lock⟩ := x
    obtain ⟨cl, id, am, tag⟩ := t
    unfold Mt.vals Tk.vals
    unfold Mt.vals at HM
    simp only at *
    go_enter Tryd.func34, Tryd.ntmps34
    go_wp2_with (fail)
    go_at_call 74
    refine (HM.out _).mono ?_
    rintro e w1 ⟨rfl, hb⟩
    have hkf : KF w1 w.heap.size ⟨me, rev, cr, wh, wb, bad, lock⟩ A ps.length c ⟨cl, id, am, tag⟩ := KF.kept (by constructor <;> go_simp) hb (by simp)
    have hz1 := hb.size
    simp at hz1
    have KF1 := Lib.hid hkf
    have HB := Lib.hid (below_then' (blw_alloc (blw_alloc (blw_alloc (blw_alloc (Below.refl _ _) _) _) _) _) hb)
    have o0 := hkf.o0
    clear hb hkf
    go_wp2_with (fail)
    go_at_call 75
    refine (HO.out _ (HR.out.below HB.out)).mono ?_
    rintro e w2 ⟨rfl, hb⟩
    have hz2 := hb.size
    have hkf := KF1.out.kept hb (by omega)
    have KF2 := Lib.hid hkf
    have HB2 := Lib.hid (below_then HB.out HB.out.size hb)
    have lt3 : w.heap.size + 1 + 1 + 1 < w2.heap.size := by omega
    clear hb hkf o0
    have z0 := KF2.out.z0
    have z1 := KF2.out.z1
    have z2 := KF2.out.z2
    have z3 := KF2.out.z3
    have z4 := KF2.out.z4
    have z5 := KF2.out.z5
    have z6 := KF2.out.z6
    have y0 := KF2.out.y0
    have y1 := KF2.out.y1
    have y2 := KF2.out.y2
    have y3 := KF2.out.y3
    have y4 := KF2.out.y4
    have y5 := KF2.out.y5
    have y6 := KF2.out.y6
    go_wp2
    refine bodyPost_ret (v := .tuple #[.agg #[.int .i64 0, .int .i64 0, .int .i64 0, .int .i64 0, .int .u64 0, .int .i64 0, .int .i64 0], .int .i64 0, .int .i64 5]) (by simp [results, Tryd.results34, go_sem, z0, z1, z2, z3, z4, z5, z6]) rfl ⟨rfl, ?_⟩
    exact set7 HB2.out (by omega) _ _ _ _ _ _ _
end Go.Proofs.YtccjcdecpgigpaaDoor.Met
