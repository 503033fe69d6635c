/- The walk of SellShare. -/
import Derived.Test.YtjfjmlcibhdilaaOpenGn
import Derived.Test.YtjfjmlcibhdilaaAgr
import Derived.Test.YtjfjmlcibhdilaaSell2
namespace Go.Proofs.Ytjfjmlcibhdilaa.SellShare
open Go.RowKit Go.Proofs.Ytjfjmlcibhdilaa.Base Go.Proofs.Ytjfjmlcibhdilaa.Tar Go.Proofs.Ytjfjmlcibhdilaa.Acc
set_option linter.unusedVariables false
set_option linter.unusedSimpArgs false
set_option maxRecDepth 20000

set_option maxHeartbeats 8000000 in
theorem walk (x : Gn) (xs : List Value) (y : Dl) (ys : List Value) (tn : Int) (w : World) (hx : ∃ L d, xs = gnv x L x.ds.length d ∧ RdE 2 Debt.Ow.enc w L x.ds ∧ x.ok) (hy : ∃ L d, ys = dlv y L y.tf.length d ∧ RdE 2 Debt.Ow.enc w L y.tf ∧ y.ok) (wtn : (Lit.int .i64 tn).wf = true) :
    Calls Try.prog 13 #[.agg xs.toArray, .agg ys.toArray, .int .i64 tn] w fun e w' => e = .returned (.bool true) ∧ Below w.heap.size w w' := by
  obtain ⟨L, d, rfl, hl, hx⟩ := hx
  obtain ⟨M, d2, rfl, hm, hy⟩ := hy
  obtain ⟨tn0, tn1⟩ := i64_bound wtn
  have HG := Lib.hid (fun W hW => gone_any x L d W hW hx)
  have HA := Lib.hid (fun W hW => agreed_any y M d2 W hW hy)
  have HL := Lib.hid hl
  have HM := Lib.hid hm
  have hao := gone_ok x
  have hnx : 1 ≤ (goneA x).nx ∧ (goneA x).nx ≤ 1048574 := by have := pk_bound x.nx 1048574 (by omega); unfold goneA; simp only; omega
  have hmo : 0 ≤ (goneA x).mo ∧ (goneA x).mo ≤ 2398 := by have := pk_bound x.mo 2399 (by omega); unfold goneA; simp only; omega
  have hk := Debt.owingL_ok x.ds 1000000000 (by omega) (by omega)
  have hn := Debt.owingL_len x.ds 1000000000
  have hxo := agreed_ok y
  have hTG := stepped_TG y.tf
  obtain ⟨hs1, hs8⟩ := stepped_len y.tf
  clear hl hm hx hy wtn
  generalize goneA x = a at *
  generalize Debt.owingL x.ds 1000000000 = ds at *
  generalize agreedX y = tm at *
  generalize steppedL y.tf = ts at *
  unfold gnv dlv
  generalize x.ds.length = ol at *
  generalize y.tf.length = tl at *
  have hp1 := pk_bound tn 100000000 (by omega)
  obtain ⟨te, hte⟩ : ∃ t, t = 1 + pk tn 100000000 := ⟨_, rfl⟩
  have ht0 : 1 ≤ te := by omega
  have ht1 : te ≤ 100000000 := by omega
  have HTE := Lib.hid hte.symm
  clear hte
  have hroll : rollA a a.mo = a := by unfold rollA; rw [if_pos rfl]
  have hage : Debt.ageL (a.mo - a.mo).toNat ds = ds := by rw [show (a.mo - a.mo).toNat = 0 by omega, age_zero]
  obtain ⟨u, hu⟩ : ∃ u, u = (sellU a ds ts tm te).1 := ⟨_, rfl⟩
  obtain ⟨B, hB⟩ : ∃ B, B = sellB a ds ts tm te := ⟨_, rfl⟩
  obtain ⟨c, hc⟩ : ∃ c, c = sellA a ds ts tm te := ⟨_, rfl⟩
  obtain ⟨fs, hf⟩ : ∃ f, f = (sellD ds tm te).1 := ⟨_, rfl⟩
  have HS := Lib.hid (fun A q T tq W hr hA ht => Sell_any a ds A q ts T tq tm te a.mo W hr hn hk hA hao ht hTG hs1 hs8 hxo (Int.le_refl _) (by omega) (by omega) ht0 ht1 a hroll.symm ds hage.symm u hu B hB c hc fs hf)
  have HTO := Lib.hid (fun A c W hr => Debt.Total_any ds A c W hr hn hk)
  have HSU := Lib.hid (fun A c W hr => Debt.sumOf_any ds A c W hr hn hk)
  have hsh0 : 0 ≤ te * tm.dbp := Int.mul_nonneg (by omega) hxo.2.2.1.1
  have hsh1 : te * tm.dbp ≤ 100000000 * 10000 := Int.mul_le_mul ht1 hxo.2.2.1.2 hxo.2.2.1.1 (by omega)
  obtain ⟨_, hmin⟩ := Debt.rec_sum (te * tm.dbp / 10000) (by omega) ds hk
  obtain ⟨hsd0, hsd1⟩ := Debt.sumD_bd ds hk
  have hbt : B.te = te := by rw [hB]; rfl
  have hbd : B.de = min (te * tm.dbp / 10000) (Debt.sumD ds) := by rw [hB]; exact hmin
  clear hroll hage hu hB hc hf hao hk hxo hTG hs1 hs8 hmin
  generalize Debt.sumD ds = sd at *
  obtain ⟨sh, hsh⟩ : ∃ s, s = te * tm.dbp := ⟨_, rfl⟩
  rw [← hsh] at hsh0 hsh1 hbd
  have HSH := Lib.hid hsh.symm
  clear hsh
  obtain ⟨b0, b1, b2, b3, b4, b5, b6⟩ := B
  unfold Bl.vals at HS
  simp only at hbt hbd
  have HBT := Lib.hid hbt
  have HBD := Lib.hid hbd
  clear hbt hbd
  obtain ⟨a0, a1, a2, a3, a4, a5⟩ := a
  obtain ⟨fix, bp, dbp, al⟩ := tm
  simp only at *
  go_enter Try.func13, Try.ntmps13
  go_wp2_with (fail)
  go_at_call 17
  refine (HG.out _ (HL.out.below (by repeat (first | with_reducible exact Below.refl _ _ | with_reducible refine Base.blw_alloc ?_ _ | with_reducible refine Below.drew ?_)))).mono ?_
  rintro e w1 ⟨D, dq, rfl, ho, hb⟩
  have HB1 : Hid (Below w.heap.size w w1) := Lib.hid (below_then' (by repeat (first | with_reducible exact Below.refl _ _ | with_reducible refine Base.blw_alloc ?_ _ | with_reducible refine Below.drew ?_)) hb)
  have CD1 := Lib.hid ((show Cs _ (w.heap.size + 1) [.slice M tl d2, .int .i64 y.ff, .int .i64 y.fb, .int .i64 y.db, .int .i64 y.al] from (by (repeat (first | (with_reducible refine Cs.new ?_; focus (first | rfl | (simp; done) | omega)) | with_reducible refine Cs.alloc ?_ _ | with_reducible refine Cs.drew ?_ | with_reducible refine Cs.drewN ?_ _ | (with_reducible refine Cs.other ?_ ?_ _; focus (first | omega | (simp; omega))) | with_reducible apply Cs.put)) <;> first | rfl | (simp; done))).after hb)
  have HD1 := Lib.hid ho.read
  have HN := Lib.hid ho.nil
  have hz1 := HB1.out.size
  have ld := CD1.out.1
  clear ho hb
  have q0 := (CD1.out.at 0 rfl).1
  have q1 := (CD1.out.at 1 rfl).1
  have q2 := (CD1.out.at 2 rfl).1
  have q3 := (CD1.out.at 3 rfl).1
  have q4 := (CD1.out.at 4 rfl).1
  go_wp2_with (fail)
  go_at_call 18
  refine (HA.out _ (HM.out.below (blw_alloc HB1.out _))).mono ?_
  rintro e w2 ⟨T, tq, rfl, ht, hb⟩
  have HB2 := Lib.hid (below_then' (blw_alloc HB1.out _) hb)
  have CA2 := Lib.hid ((show Cs _ w1.heap.size [.int .i64 a0, .int .i64 a1, .int .i64 a2, .int .i64 a3, .int .i64 a4, .int .i64 a5, .slice D ds.length dq] from (by (repeat (first | (with_reducible refine Cs.new ?_; focus (first | rfl | (simp; done) | omega)) | with_reducible refine Cs.alloc ?_ _ | with_reducible refine Cs.drew ?_ | with_reducible refine Cs.drewN ?_ _ | (with_reducible refine Cs.other ?_ ?_ _; focus (first | omega | (simp; omega))) | with_reducible apply Cs.put)) <;> first | rfl | (simp; done))).after hb)
  have HD2 := Lib.hid ((HD1.out.below (blw_alloc (Below.refl _ _) _)).below hb)
  have HT2 := Lib.hid ht
  have la := CA2.out.1
  clear ht hb q0 q1 q2 q3 q4 CD1 ld
  generalize w1.heap.size = pa at *
  clear HB1 HD1
  go_wp2_with (fail)
  go_at_call 19
  refine (picked_any _ _ _ (by omega) (by omega) (by omega)).mono ?_
  rintro e w' ⟨rfl, rfl⟩
  have x0 := (CA2.out.at 0 rfl).1
  have x1 := (CA2.out.at 1 rfl).1
  have x2 := (CA2.out.at 2 rfl).1
  have x3 := (CA2.out.at 3 rfl).1
  have x4 := (CA2.out.at 4 rfl).1
  have x5 := (CA2.out.at 5 rfl).1
  have x6 := (CA2.out.at 6 rfl).1
  go_wp2_with (fail)
  rw [HTE.out]
  go_at_call 29
  refine (HS.out D dq T tq _ (HD2.out.below (blw_alloc (Below.refl _ _) _)) HN.out (HT2.out.below (blw_alloc (Below.refl _ _) _))).mono ?_
  rintro e w3 ⟨hcase, hb⟩
  have HB3 := Lib.hid (below_then' (blw_alloc HB2.out _) hb)
  have HD3 := Lib.hid ((HD2.out.below (blw_alloc (Below.refl _ _) _)).below hb)
  have CA3 := Lib.hid ((CA2.out.alloc _).after hb)
  have CT3 := Lib.hid ((show Cs _ w2.heap.size [.slice T ts.length tq, .int .i64 fix, .int .i64 bp, .int .i64 dbp, .int .i64 al] from (by (repeat (first | (with_reducible refine Cs.new ?_; focus (first | rfl | (simp; done) | omega)) | with_reducible refine Cs.alloc ?_ _ | with_reducible refine Cs.drew ?_ | with_reducible refine Cs.drewN ?_ _ | (with_reducible refine Cs.other ?_ ?_ _; focus (first | omega | (simp; omega))) | with_reducible apply Cs.put)) <;> first | rfl | (simp; done))).after hb)
  have la3 := CA3.out.1
  have lt3 := CT3.out.1
  clear hb x0 x1 x2 x3 x4 x5 x6
  have x6 := (CA3.out.at 6 rfl).1
  rcases hcase with ⟨hu0, rfl⟩ | ⟨hu0, F, fq, rfl, _⟩
  · go_wp2_with (fail)
    go_at_call 30
    refine (HTO.out D dq _ (HD3.out.below (by repeat (first | with_reducible exact Below.refl _ _ | with_reducible refine Base.blw_alloc ?_ _ | with_reducible refine Below.drew ?_)))).mono ?_
    rintro e w4 ⟨rfl, hb⟩
    have HB4 := Lib.hid (below_then' (blw_alloc (blw_alloc HB3.out _) _) hb)
    clear hb hu0
    go_wp2_with (fail)
    go_ret
    exact ⟨rfl, HB4.out⟩
  · go_wp2_with (fail)
    go_at_call 30
    refine (HTO.out D dq _ (HD3.out.below (by repeat (first | with_reducible exact Below.refl _ _ | with_reducible refine Base.blw_alloc ?_ _ | with_reducible refine Below.drew ?_)))).mono ?_
    rintro e w4 ⟨rfl, hb⟩
    have HB4 := Lib.hid (below_then' (blw_alloc (blw_alloc HB3.out _) _) hb)
    have HD4 := Lib.hid ((HD3.out.below (blw_alloc (blw_alloc (Below.refl _ _) _) _)).below hb)
    have CA4 := Lib.hid (((CA3.out.alloc _).alloc _).after hb)
    have CT4 := Lib.hid (((CT3.out.alloc _).alloc _).after hb)
    have CB4 := Lib.hid ((show Cs _ (w3.heap.size + 1) [.int .i64 b0, .int .i64 b1, .int .i64 b2, .int .i64 b3, .int .i64 b4, .int .i64 b5, .int .i64 b6] from (by (repeat (first | (with_reducible refine Cs.new ?_; focus (first | rfl | (simp; done) | omega)) | with_reducible refine Cs.alloc ?_ _ | with_reducible refine Cs.drew ?_ | with_reducible refine Cs.drewN ?_ _ | (with_reducible refine Cs.other ?_ ?_ _; focus (first | omega | (simp; omega))) | with_reducible apply Cs.put)) <;> first | rfl | (simp; done))).after hb)
    clear hb hu0 x6
    have x6 := (CA4.out.at 6 rfl).1
    have y3 := (CT4.out.at 3 rfl).1
    have z1 := (CB4.out.at 1 rfl).1
    have z2 := (CB4.out.at 2 rfl).1
    have hbd := HBD.out
    have hbt := HBT.out
    clear HBT HBD
    subst hbt
    have k1 : (b1 == b1) = true := by simp
    have k2 : (sd == sd) = true := by simp
    have hb0 : 0 ≤ b2 := by omega
    have hb1 : b2 ≤ 100000000 := by omega
    have k3 : b2 * 10000 ≤ sh := by omega
    have k4 : b2 ≤ sd := by omega
    have hw : Go.RowKit.wrap64 (b1 * dbp) = sh := by rw [HSH.out]; unfold Go.RowKit.wrap64; omega
    have HSUM := Lib.hid (HSU.out D dq w4 HD4.out)
    by_cases he : b2 = sd
    · have k5 : (b2 == sd) = true := by simp [he]
      have HE := Lib.hid he
      clear he hbd
      go_wp2_with (go_at_call 31; refine HSUM.out.mono ?_; rintro e w' ⟨rfl, rfl⟩)
      go_ret
      exact ⟨rfl, HB4.out⟩
    · have k5 : (b2 == sd) = false := by simp [he]
      have k6 : sh < (b2 + 1) * 10000 := by omega
      clear he hbd
      go_wp2_with (go_at_call 31; refine HSUM.out.mono ?_; rintro e w' ⟨rfl, rfl⟩)
      go_ret
      exact ⟨rfl, HB4.out⟩
end Go.Proofs.Ytjfjmlcibhdilaa.SellShare
