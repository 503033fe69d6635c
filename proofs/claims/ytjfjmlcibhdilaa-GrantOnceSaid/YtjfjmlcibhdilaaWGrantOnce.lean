/- The walk of GrantOnce. -/
import Derived.Test.YtjfjmlcibhdilaaOpenGn
import Derived.Test.YtjfjmlcibhdilaaAgr
import Derived.Test.YtjfjmlcibhdilaaGrant
namespace Go.Proofs.Ytjfjmlcibhdilaa.GrantOnce
open Go.RowKit Go.Proofs.Ytjfjmlcibhdilaa.Base Go.Proofs.Ytjfjmlcibhdilaa.Tar Go.Proofs.Ytjfjmlcibhdilaa.Acc
set_option linter.unusedVariables false
set_option linter.unusedSimpArgs false
set_option maxRecDepth 20000

set_option maxHeartbeats 8000000 in
theorem walk (x : Gn) (xs : List Value) (y : Dl) (ys : List Value) (la : Int) (w : World) (hx : ∃ L d, xs = gnv x L x.ds.length d ∧ RdE 2 Debt.Ow.enc w L x.ds ∧ x.ok) (hy : ∃ L d, ys = dlv y L y.tf.length d ∧ RdE 2 Debt.Ow.enc w L y.tf ∧ y.ok) (wla : (Lit.int .i64 la).wf = true) :
    Calls Try.prog 4 #[.agg xs.toArray, .agg ys.toArray, .int .i64 la] w fun e w' => e = .returned (.bool true) ∧ Below w.heap.size w w' := by
  obtain ⟨L, d, rfl, hl, hx⟩ := hx
  obtain ⟨M, d2, rfl, hm, hy⟩ := hy
  obtain ⟨la0, la1⟩ := i64_bound wla
  have HG := Lib.hid (fun W hW => gone_any x L d W hW hx)
  have HA := Lib.hid (fun W hW => agreed_any y M d2 W hW hy)
  have HL := Lib.hid hl
  have HM := Lib.hid hm
  have hao := gone_ok x
  have hnx : 1 ≤ (goneA x).nx ∧ (goneA x).nx ≤ 1048574 := by have := pk_bound x.nx 1048574 (by omega); unfold goneA; simp only; omega
  have hmo : 0 ≤ (goneA x).mo ∧ (goneA x).mo ≤ 2398 := by have := pk_bound x.mo 2399 (by omega); unfold goneA; simp only; omega
  have hk := Debt.owingL_ok x.ds 1000000000 (by omega) (by omega)
  have hn := Debt.owingL_len x.ds 1000000000
  have hxo := agreed_ok y
  have hTG := stepped_TG y.tf
  obtain ⟨hs1, hs8⟩ := stepped_len y.tf
  clear hl hm hx hy wla
  generalize goneA x = a at *
  generalize Debt.owingL x.ds 1000000000 = ds at *
  generalize agreedX y = tm at *
  generalize steppedL y.tf = ts at *
  unfold gnv dlv
  generalize x.ds.length = ol at *
  generalize y.tf.length = tl at *
  have hp2 := pk_bound la (2399 - a.mo) (by omega)
  obtain ⟨m, hm⟩ : ∃ m, m = a.mo + pk la (2399 - a.mo) := ⟨_, rfl⟩
  have hm0 : a.mo ≤ m := by omega
  have hm1 : m ≤ 2398 := by omega
  have HMO := Lib.hid hm.symm
  clear hm
  obtain ⟨al2, hal2⟩ : ∃ z, z = max tm.al 1 := ⟨_, rfl⟩
  obtain ⟨x2, hx2⟩ : ∃ x2 : Tm, x2 = ⟨tm.fix, tm.bp, tm.dbp, al2⟩ := ⟨_, rfl⟩
  have ho2 : x2.ok := by
    obtain ⟨q1, q2, q3, q4, q5⟩ := hxo
    rw [hx2]
    exact ⟨q1, q2, q3, by show 0 ≤ al2; omega, by show al2 ≤ 2097151; omega⟩
  have ha2 : 1 ≤ x2.al := by rw [hx2]; show 1 ≤ al2; omega
  obtain ⟨b, hb⟩ : ∃ b, b = rollA a m := ⟨_, rfl⟩
  obtain ⟨es, he⟩ : ∃ e, e = Debt.ageL (m - a.mo).toNat ds := ⟨_, rfl⟩
  have hbo : b.ok := by rw [hb]; exact roll_ok a m hao hm0 (by omega)
  have hek : ∀ x ∈ es, x.ok := by rw [he]; exact age_ok _ _ hk
  have hel : es.length ≤ 8 := by rw [he, age_len]; exact hn
  have hbn : b.nx = a.nx := by rw [hb]; rfl
  have hbm : b.mo = m := by rw [hb]; rfl
  have hbf : b.fr = a.fr := by rw [hb]; rfl
  obtain ⟨g, hg⟩ : ∃ g : Ac, g = ⟨b.me, b.rev, b.nx + 1, b.mo, b.bo, m⟩ := ⟨_, rfl⟩
  have hgo : g.ok := by
    obtain ⟨q1, q2, q3, q4, q5, q6, q7⟩ := hbo
    rw [hg]
    exact ⟨q1, q2, by show 1 ≤ b.nx + 1 ∧ b.nx + 1 ≤ 1048576; omega, q4, q5, by show -1 ≤ m; omega, by show m ≤ b.mo; omega⟩
  have hgm : g.mo = m := by rw [hg]; exact hbm
  have hgn : g.nx ≤ 1048575 := by rw [hg]; show b.nx + 1 ≤ 1048575; omega
  have hgr : rollA g m = g := by unfold rollA; rw [hgm, if_pos rfl, ← hgm]
  have hgs : Debt.ageL (m - g.mo).toNat es = es := by rw [hgm, show (m - m).toNat = 0 by omega, age_zero]
  have hgf : g.fr = m := by rw [hg]
  obtain ⟨r, hrr⟩ : ∃ r, r = rollA g (m + 1) := ⟨_, rfl⟩
  obtain ⟨fs, hf⟩ : ∃ f, f = Debt.ageL (m + 1 - g.mo).toNat es := ⟨_, rfl⟩
  have hrf : r.fr = m := by rw [hrr]; exact hgf
  have hrn : r.nx = a.nx + 1 := by rw [hrr]; show g.nx = _; rw [hg]; show b.nx + 1 = _; rw [hbn]
  have HG1 := Lib.hid (fun A q T tq W hr hA ht => Grant_any a ds A q ts T tq x2 m W hr hn hk hA hao ht hTG hs1 hs8 ho2 ha2 hm0 (by omega) (by omega) b hb es he)
  have HG2 := Lib.hid (fun A q T tq W hr hA ht => Grant_any g es A q ts T tq x2 m W hr hel hek hA hgo ht hTG hs1 hs8 ho2 ha2 (by omega) (by omega) hgn g hgr.symm es hgs.symm)
  have HG3 := Lib.hid (fun A q T tq W hr hA ht => Grant_any g es A q ts T tq x2 (m + 1) W hr hel hek hA hgo ht hTG hs1 hs8 ho2 ha2 (by omega) (by omega) hgn r hrr fs hf)
  have hal0 : 0 ≤ tm.al := hxo.2.2.2.1
  subst hx2 hg
  have HRF := Lib.hid hrf
  have HRN := Lib.hid hrn
  have HBN := Lib.hid hbn
  have HBF := Lib.hid hbf
  have HA2 := Lib.hid hal2.symm
  clear hb he hbo hek hel hbn hbm hbf hgo hgm hgn hgr hgs hgf hrr hf hrf hrn hk hao hxo hTG hs1 hs8 ho2 ha2 hal2
  obtain ⟨b0, b1, b2, b3, b4, b5⟩ := b
  obtain ⟨r0, r1, r2, r3, r4, r5⟩ := r
  simp only at HG1 HG2 HG3 HRF HRN HBN HBF
  obtain ⟨a0, a1, a2, a3, a4, a5⟩ := a
  obtain ⟨fix, bp, dbp, al⟩ := tm
  simp only at *
  go_enter Try.func4, Try.ntmps4
  go_wp2_with (fail)
  go_at_call 17
  refine (HG.out _ (HL.out.below (by repeat (first | with_reducible exact Below.refl _ _ | with_reducible refine Base.blw_alloc ?_ _ | with_reducible refine Below.drew ?_)))).mono ?_
  rintro e w1 ⟨D, dq, rfl, ho, hb⟩
  have HB1 : Hid (Below w.heap.size w w1) := Lib.hid (below_then' (by repeat (first | with_reducible exact Below.refl _ _ | with_reducible refine Base.blw_alloc ?_ _ | with_reducible refine Below.drew ?_)) hb)
  have CD1 := Lib.hid ((show Cs _ (w.heap.size + 1) [.slice M tl d2, .int .i64 y.ff, .int .i64 y.fb, .int .i64 y.db, .int .i64 y.al] from (by (repeat (first | (with_reducible refine Cs.new ?_; focus (first | rfl | (simp; done) | omega)) | with_reducible refine Cs.alloc ?_ _ | with_reducible refine Cs.drew ?_ | with_reducible refine Cs.drewN ?_ _ | (with_reducible refine Cs.other ?_ ?_ _; focus (first | omega | (simp; omega))) | with_reducible apply Cs.put)) <;> first | rfl | (simp; done))).after hb)
  have HD1 := Lib.hid ho.read
  have HN := Lib.hid ho.nil
  have hz1 := HB1.out.size
  have ld := CD1.out.1
  clear ho hb
  have q0 := (CD1.out.at 0 rfl).1
  have q1 := (CD1.out.at 1 rfl).1
  have q2 := (CD1.out.at 2 rfl).1
  have q3 := (CD1.out.at 3 rfl).1
  have q4 := (CD1.out.at 4 rfl).1
  go_wp2_with (fail)
  go_at_call 18
  refine (HA.out _ (HM.out.below (blw_alloc HB1.out _))).mono ?_
  rintro e w2 ⟨T, tq, rfl, ht, hb⟩
  have HB2 := Lib.hid (below_then' (blw_alloc HB1.out _) hb)
  have CA2 := Lib.hid ((show Cs _ w1.heap.size [.int .i64 a0, .int .i64 a1, .int .i64 a2, .int .i64 a3, .int .i64 a4, .int .i64 a5, .slice D ds.length dq] from (by (repeat (first | (with_reducible refine Cs.new ?_; focus (first | rfl | (simp; done) | omega)) | with_reducible refine Cs.alloc ?_ _ | with_reducible refine Cs.drew ?_ | with_reducible refine Cs.drewN ?_ _ | (with_reducible refine Cs.other ?_ ?_ _; focus (first | omega | (simp; omega))) | with_reducible apply Cs.put)) <;> first | rfl | (simp; done))).after hb)
  have HD2 := Lib.hid ((HD1.out.below (blw_alloc (Below.refl _ _) _)).below hb)
  have HT2 := Lib.hid ht
  have la := CA2.out.1
  clear ht hb q0 q1 q2 q3 q4 CD1 ld
  generalize w1.heap.size = pa at *
  clear HB1 HD1
  have x0 := (CA2.out.at 0 rfl).1
  have x1 := (CA2.out.at 1 rfl).1
  have x2 := (CA2.out.at 2 rfl).1
  have x3 := (CA2.out.at 3 rfl).1
  have x4 := (CA2.out.at 4 rfl).1
  have x5 := (CA2.out.at 5 rfl).1
  have x6 := (CA2.out.at 6 rfl).1
  go_upto_region 4 with fail
  have hif : (if al < 1 then (1 : Int) else al) = al2 := by rw [← HA2.out]; omega
  rw [hif]
  clear hif
  go_quiet ((go_at_call 19; exact quiet_same (picked_any _ _ _ (by omega) (by omega) (by omega))))
  rw [HMO.out]
  have CA3 := Lib.hid ((CA2.out.alloc (.cells #[.slice T ts.length tq, .int .i64 fix, .int .i64 bp, .int .i64 dbp, .int .i64 al2] 42)).drewN nq)
  have CT3 := Lib.hid ((Cs.new rfl : Cs (w2.alloc (.cells #[.slice T ts.length tq, .int .i64 fix, .int .i64 bp, .int .i64 dbp, .int .i64 al2] 42)) w2.heap.size [.slice T ts.length tq, .int .i64 fix, .int .i64 bp, .int .i64 dbp, .int .i64 al2]).drewN nq)
  have HB3 := Lib.hid (blw_step (blw_alloc HB2.out (.cells #[.slice T ts.length tq, .int .i64 fix, .int .i64 bp, .int .i64 dbp, .int .i64 al2] 42)) nq)
  have HD3 := Lib.hid (HD2.out.below (blw_step (blw_alloc (Below.refl _ _) (.cells #[.slice T ts.length tq, .int .i64 fix, .int .i64 bp, .int .i64 dbp, .int .i64 al2] 42)) nq))
  have HT3 := Lib.hid (HT2.out.below (blw_step (blw_alloc (Below.refl _ _) (.cells #[.slice T ts.length tq, .int .i64 fix, .int .i64 bp, .int .i64 dbp, .int .i64 al2] 42)) nq))
  generalize (w2.alloc (.cells #[.slice T ts.length tq, .int .i64 fix, .int .i64 bp, .int .i64 dbp, .int .i64 al2] 42)).drewN nq = w3 at *
  generalize w2.heap.size = pt at *
  clear x0 x1 x2 x3 x4 x5 x6 la CA2 HB2 HD2 HT2
  have la3 := CA3.out.1
  have lt3 := CT3.out.1
  have x0 := (CA3.out.at 0 rfl).1
  have x1 := (CA3.out.at 1 rfl).1
  have x2 := (CA3.out.at 2 rfl).1
  have x3 := (CA3.out.at 3 rfl).1
  have x4 := (CA3.out.at 4 rfl).1
  have x5 := (CA3.out.at 5 rfl).1
  have x6 := (CA3.out.at 6 rfl).1
  have y0 := (CT3.out.at 0 rfl).1
  have y1 := (CT3.out.at 1 rfl).1
  have y2 := (CT3.out.at 2 rfl).1
  have y3 := (CT3.out.at 3 rfl).1
  have y4 := (CT3.out.at 4 rfl).1
  go_wp2_with (fail)
  go_at_call 20
  refine (HG1.out D dq T tq _ HD3.out HN.out HT3.out).mono ?_
  rintro e w4 ⟨hcase, hb⟩
  have HB4 := Lib.hid (below_then' HB3.out hb)
  have HT4 := Lib.hid (HT3.out.below hb)
  have CA4 := Lib.hid (CA3.out.after hb)
  have CT4 := Lib.hid (CT3.out.after hb)
  clear hb x0 x1 x2 x3 x4 x5 x6 y0 y1 y2 y3 y4 la3 lt3
  have la4 := CA4.out.1
  have lt4 := CT4.out.1
  have x5 := (CA4.out.at 5 rfl).1
  have y0 := (CT4.out.at 0 rfl).1
  have y1 := (CT4.out.at 1 rfl).1
  have y2 := (CT4.out.at 2 rfl).1
  have y3 := (CT4.out.at 3 rfl).1
  have y4 := (CT4.out.at 4 rfl).1
  rcases hcase with ⟨hfr, rfl⟩ | ⟨hfr, F, fq, rfl, ho⟩
  · have t1 : (a5 == m) = true := by have := HBF.out; simp; omega
    clear hfr
    go_wp2_with (fail)
    go_ret
    exact ⟨rfl, blw_alloc (blw_alloc HB4.out _) _⟩
  · have t1 : (a5 == m) = false := by have := HBF.out; simp; omega
    have HF4 := Lib.hid ho.read
    have HNF := Lib.hid ho.nil
    clear hfr ho
    go_wp2_with (fail)
    go_at_call 20
    refine (HG2.out F fq T tq _ (HF4.out.below (by repeat (first | with_reducible exact Below.refl _ _ | with_reducible refine Base.blw_alloc ?_ _ | with_reducible refine Below.drew ?_))) HNF.out (HT4.out.below (by repeat (first | with_reducible exact Below.refl _ _ | with_reducible refine Base.blw_alloc ?_ _ | with_reducible refine Below.drew ?_)))).mono ?_
    rintro e w5 ⟨hcase, hb⟩
    have HB5 := Lib.hid (below_then' (blw_alloc (blw_alloc HB4.out _) _) hb)
    have HT5 := Lib.hid ((HT4.out.below (blw_alloc (blw_alloc (Below.refl _ _) _) _)).below hb)
    have HF5 := Lib.hid ((HF4.out.below (blw_alloc (blw_alloc (Below.refl _ _) _) _)).below hb)
    have CA5 := Lib.hid (((CA4.out.alloc _).alloc _).after hb)
    have CT5 := Lib.hid (((CT4.out.alloc _).alloc _).after hb)
    have CG5 := Lib.hid ((show Cs _ w4.heap.size [.int .i64 b0, .int .i64 b1, .int .i64 (b2 + 1), .int .i64 b3, .int .i64 b4, .int .i64 m, .slice F es.length fq] from (by (repeat (first | (with_reducible refine Cs.new ?_; focus (first | rfl | (simp; done) | omega)) | with_reducible refine Cs.alloc ?_ _ | with_reducible refine Cs.drew ?_ | with_reducible refine Cs.drewN ?_ _ | (with_reducible refine Cs.other ?_ ?_ _; focus (first | omega | (simp; omega))) | with_reducible apply Cs.put)) <;> first | rfl | (simp; done))).after hb)
    have CB5 := Lib.hid ((show Cs _ (w4.heap.size + 1) [.int .i64 b2, .int .i64 0, .int .i64 0, .int .i64 0, .int .i64 0, .int .i64 0, .int .i64 al2] from (by (repeat (first | (with_reducible refine Cs.new ?_; focus (first | rfl | (simp; done) | omega)) | with_reducible refine Cs.alloc ?_ _ | with_reducible refine Cs.drew ?_ | with_reducible refine Cs.drewN ?_ _ | (with_reducible refine Cs.other ?_ ?_ _; focus (first | omega | (simp; omega))) | with_reducible apply Cs.put)) <;> first | rfl | (simp; done))).after hb)
    clear hb x5 y0 y1 y2 y3 y4
    have lg5 := CG5.out.1
    have lt5 := CT5.out.1
    have   x0 := (CG5.out.at 0 rfl).1
    have   x1 := (CG5.out.at 1 rfl).1
    have   x2 := (CG5.out.at 2 rfl).1
    have   x3 := (CG5.out.at 3 rfl).1
    have   x4 := (CG5.out.at 4 rfl).1
    have   x5 := (CG5.out.at 5 rfl).1
    have   x6 := (CG5.out.at 6 rfl).1
    have   y0 := (CT5.out.at 0 rfl).1
    have   y1 := (CT5.out.at 1 rfl).1
    have   y2 := (CT5.out.at 2 rfl).1
    have   y3 := (CT5.out.at 3 rfl).1
    have   y4 := (CT5.out.at 4 rfl).1
    rcases hcase with ⟨_, rfl⟩ | ⟨hne, _⟩
    · go_wp2_with (fail)
      go_at_call 20
      refine (HG3.out F fq T tq _ (HF5.out.below (by repeat (first | with_reducible exact Below.refl _ _ | with_reducible refine Base.blw_alloc ?_ _ | with_reducible refine Below.drew ?_))) HNF.out (HT5.out.below (by repeat (first | with_reducible exact Below.refl _ _ | with_reducible refine Base.blw_alloc ?_ _ | with_reducible refine Below.drew ?_)))).mono ?_
      rintro e w6 ⟨hcase, hb⟩
      have HB6 := Lib.hid (below_then' (blw_alloc (blw_alloc HB5.out _) _) hb)
      have CA6 := Lib.hid (((CA5.out.alloc _).alloc _).after hb)
      have CT6 := Lib.hid (((CT5.out.alloc _).alloc _).after hb)
      have CB6 := Lib.hid (((CB5.out.alloc _).alloc _).after hb)
      clear hb x0 x1 x2 x3 x4 x5 x6 y0 y1 y2 y3 y4
      generalize w4.heap.size + 1 = pb at *
      have lb6 := CB6.out.1
      have la6 := CA6.out.1
      have lt6 := CT6.out.1
      have x2 := (CA6.out.at 2 rfl).1
      have y4 := (CT6.out.at 4 rfl).1
      have z0 := (CB6.out.at 0 rfl).1
      have z1 := (CB6.out.at 1 rfl).1
      have z2 := (CB6.out.at 2 rfl).1
      have z3 := (CB6.out.at 3 rfl).1
      have z4 := (CB6.out.at 4 rfl).1
      have z5 := (CB6.out.at 5 rfl).1
      have z6 := (CB6.out.at 6 rfl).1
      rcases hcase with ⟨hr, _⟩ | ⟨_, G, gq, rfl, _⟩
      · exfalso
        have := HRF.out
        omega
      · have e1 : b2 = a2 := HBN.out
        have e2 : r2 = a2 + 1 := HRN.out
        have t2 : (r2 == a2 + 1) = true := by simp [e2]
        have t3 : (m + 1 == m + 1) = true := by simp
        rw [e1] at z0
        clear e1 e2
        go_wp2_with (fail)
        go_ret
        exact ⟨rfl, blw_alloc (blw_alloc HB6.out _) _⟩
    · exact absurd rfl hne
end Go.Proofs.Ytjfjmlcibhdilaa.GrantOnce
