/- The walk of SellAdds. -/
import Derived.Test.YtfdgjaahmbjnpaaOpenGn
import Derived.Test.YtfdgjaahmbjnpaaAgr
import Derived.Test.YtfdgjaahmbjnpaaSell2
namespace Go.Proofs.Ytfdgjaahmbjnpaa.SellAdds
open Go.RowKit Go.Proofs.Ytfdgjaahmbjnpaa.Base Go.Proofs.Ytfdgjaahmbjnpaa.Tar Go.Proofs.Ytfdgjaahmbjnpaa.Acc
set_option linter.unusedVariables false
set_option linter.unusedSimpArgs false
set_option maxRecDepth 20000
theorem roll_call (a : Ac) (m : Int) (ds : List Debt.Db) (A : Option Addr) (n q : Nat) (w : World) (hl : n = ds.length) (hr : RdE 2 Debt.Db.enc w A ds) (hn : ds.length ≤ 8) (hk : ∀ x ∈ ds, x.ok) (hA : A = none → ds = [] ∧ q = 0) (ha : a.ok) (m0 : a.mo ≤ m) (m1 : m ≤ 2399) (b : Ac) (hb : b = rollA a m) (es : List Debt.Db) (he : es = Debt.ageL (m - a.mo).toNat ds) :
    Calls Try.prog 19 #[.agg #[.int .i64 a.me, .int .i64 a.rev, .int .i64 a.nx, .int .i64 a.mo, .int .i64 a.bo, .int .i64 a.fr, .slice A n q], .int .i64 m] w fun e w' => ∃ D dq, e = .returned (.tuple #[.agg #[.int .i64 b.me, .int .i64 b.rev, .int .i64 b.nx, .int .i64 b.mo, .int .i64 b.bo, .int .i64 b.fr, .slice D es.length dq], .int .i64 0]) ∧ Debt.OwDb w.heap.size w' D dq es ∧ Below w.heap.size w w' := by
  subst hb he hl
  exact Roll_any a ds A q m w hr hn hk hA ha m0 m1
set_option maxHeartbeats 8000000 in
theorem walk (x : Gn) (xs : List Value) (y : Dl) (ys : List Value) (tn la : Int) (w : World) (hx : ∃ L d, xs = gnv x L x.ds.length d ∧ RdE 2 Debt.Ow.enc w L x.ds ∧ x.ok) (hy : ∃ L d, ys = dlv y L y.tf.length d ∧ RdE 2 Debt.Ow.enc w L y.tf ∧ y.ok) (wtn : (Lit.int .i64 tn).wf = true) (wla : (Lit.int .i64 la).wf = true) :
    Calls Try.prog 5 #[.agg xs.toArray, .agg ys.toArray, .int .i64 tn, .int .i64 la] w fun e w' => e = .returned (.bool true) ∧ Below w.heap.size w w' := by
  obtain ⟨L, d, rfl, hl, hx⟩ := hx
  obtain ⟨M, d2, rfl, hm, hy⟩ := hy
  obtain ⟨tn0, tn1⟩ := i64_bound wtn
  obtain ⟨la0, la1⟩ := i64_bound wla
  have HG := Lib.hid (fun W hW => gone_any x L d W hW hx)
  have HA := Lib.hid (fun W hW => agreed_any y M d2 W hW hy)
  have HL := Lib.hid hl
  have HM := Lib.hid hm
  have hao := gone_ok x
  have hnx : 1 ≤ (goneA x).nx ∧ (goneA x).nx ≤ 1048574 := by have := pk_bound x.nx 1048574 (by omega); unfold goneA; simp only; omega
  have hmo : 0 ≤ (goneA x).mo ∧ (goneA x).mo ≤ 2398 := by have := pk_bound x.mo 2399 (by omega); unfold goneA; simp only; omega
  have hk := Debt.owingL_ok x.ds 1000000000 (by omega) (by omega)
  have hn := Debt.owingL_len x.ds 1000000000
  have hxo := agreed_ok y
  have hTG := stepped_TG y.tf
  obtain ⟨hs1, hs8⟩ := stepped_len y.tf
  clear hl hm hx hy wtn wla
  generalize goneA x = a at *
  generalize Debt.owingL x.ds 1000000000 = ds at *
  generalize agreedX y = tm at *
  generalize steppedL y.tf = ts at *
  unfold gnv dlv
  generalize x.ds.length = ol at *
  generalize y.tf.length = tl at *
  have hp1 := pk_bound tn 100000000 (by omega)
  obtain ⟨te, hte⟩ : ∃ t, t = 1 + pk tn 100000000 := ⟨_, rfl⟩
  have ht0 : 1 ≤ te := by omega
  have ht1 : te ≤ 100000000 := by omega
  have HTE := Lib.hid hte.symm
  clear hte
  have hp2 := pk_bound la (2399 - a.mo + 1) (by omega)
  obtain ⟨m, hm⟩ : ∃ m, m = a.mo + pk la (2399 - a.mo + 1) := ⟨_, rfl⟩
  have hm0 : a.mo ≤ m := by omega
  have hm1 : m ≤ 2399 := by omega
  have HMO := Lib.hid hm.symm
  clear hm
  obtain ⟨b, hb⟩ : ∃ b, b = rollA a m := ⟨_, rfl⟩
  obtain ⟨es, he⟩ : ∃ e, e = Debt.ageL (m - a.mo).toNat ds := ⟨_, rfl⟩
  have hbo : b.ok := by rw [hb]; exact roll_ok a m hao hm0 hm1
  have hel : es.length = ds.length := by rw [he, age_len]
  have hek : ∀ x ∈ es, x.ok := by rw [he]; exact age_ok _ _ hk
  obtain ⟨u, hu⟩ : ∃ u, u = (sellU b es ts tm te).1 := ⟨_, rfl⟩
  obtain ⟨pr, hpr⟩ : ∃ u, u = (sellU b es ts tm te).2 := ⟨_, rfl⟩
  obtain ⟨B, hB⟩ : ∃ B, B = sellB b es ts tm te := ⟨_, rfl⟩
  obtain ⟨c, hc⟩ : ∃ c, c = sellA b es ts tm te := ⟨_, rfl⟩
  obtain ⟨fs, hf⟩ : ∃ f, f = (sellD es tm te).1 := ⟨_, rfl⟩
  obtain ⟨pd, hpd⟩ : ∃ f, f = (sellD es tm te).2 := ⟨_, rfl⟩
  obtain ⟨fe, hfe⟩ : ∃ f, f = sellF tm te := ⟨_, rfl⟩
  obtain ⟨re, hre⟩ : ∃ f, f = sellR es tm te := ⟨_, rfl⟩
  have HS := Lib.hid (fun A q T tq W hr hA ht => Sell_any a ds A q ts T tq tm te m W hr hn hk hA hao ht hTG hs1 hs8 hxo hm0 hm1 (by omega) ht0 ht1 b hb es he u hu B hB c hc fs hf)
  have hsh0 : 0 ≤ te * tm.dbp / 10000 := Int.ediv_nonneg (Int.mul_nonneg (by omega) hxo.2.2.1.1) (by omega)
  have hbp0 : 0 ≤ te * tm.bp := Int.mul_nonneg (by omega) hxo.2.1.1
  have hbp1 : te * tm.bp ≤ 100000000 * 10000 := Int.mul_le_mul ht1 hxo.2.1.2 hxo.2.1.1 (by omega)
  have hdb1 : te * tm.dbp ≤ 100000000 * 10000 := Int.mul_le_mul ht1 hxo.2.2.1.2 hxo.2.2.1.1 (by omega)
  have hinv := Debt.recL_inv (te * tm.dbp / 10000) hsh0 es hek
  obtain ⟨⟨p0, p1⟩, hfk, hfl⟩ := hinv
  have hfe0 : 0 ≤ fe ∧ fe ≤ 100100000 := by have := hxo.1; rw [hfe]; unfold sellF; omega
  have hrd : re = te - pd - fe := by rw [hre, hpd, hfe]; rfl
  have hpd0 : 0 ≤ pd ∧ pd ≤ 100000000 := by rw [hpd]; exact ⟨p0, by show (Debt.recL _ es).2 ≤ _; omega⟩
  have hB0 := hbo.2.2.2.2.1
  have hU1 : Hid (0 ≤ u ∧ u ≤ 2097151 ∧ b.bo + u ≤ 10000000 ∧ (0 ≤ re → pr = cum 0 ts (b.bo + u) - cum 0 ts b.bo ∧ pr ≤ re ∧ (u = 2097151 ∨ b.bo + u = 10000000 ∨ re < cum 0 ts (b.bo + u + 1) - cum 0 ts b.bo)) ∧ (re < 0 → u = 0)) := Lib.hid (by
    rw [hu, hpr]
    unfold sellU
    rw [← hre]
    by_cases hr0 : 0 ≤ re
    · rw [if_pos hr0]
      obtain ⟨q1, q2, q3, q4, q5, q6, q7⟩ := most_law re ts 0 b.bo 0 0 hTG hB0.1 hB0.2 (by omega) hr0 (by omega) (by omega) _ rfl
      simp only [Int.sub_zero] at q3 q6 q7
      exact ⟨q1, q2, q3, fun _ => ⟨by omega, q5, by rw [Int.zero_add] at q7; exact q7⟩, fun h => by omega⟩
    · rw [if_neg hr0]
      exact ⟨Int.le_refl _, by show (0 : Int) ≤ 2097151; omega, by show b.bo + 0 ≤ 10000000; omega, fun h => absurd h hr0, fun _ => rfl⟩)
  have HRO := Lib.hid (fun A n q W hq hr hA => roll_call a m ds A n q W hq hr hn hk hA hao hm0 hm1 b hb es he)
  have HREC := Lib.hid (fun A q W hr => Debt.recover_any es te tm.dbp A q W hr (by omega) hek (by omega) ht1 hxo.2.2.1.1 hxo.2.2.1.2)
  have HPART := Lib.hid (fun W => Debt.part_any te tm.bp W (by omega) (by omega) hxo.2.1.1 hxo.2.1.2)
  have HPRI := Lib.hid (fun A q W hr (h : b.bo + 1 ≤ 10000000) => price_any ts A q b.bo 1 W hr hTG hs1 hs8 hB0.1 (by omega) (by omega) h)
  have F1 : Hid (u = 0 → 0 ≤ re → b.bo < 10000000 → re < costL (billL ts b.bo 1)) := Lib.hid (fun h1 h2 h3 => by
    obtain ⟨_, _, _, q4, _⟩ := hU1.out
    obtain ⟨_, _, q7⟩ := q4 h2
    rw [bill_cost ts 0 b.bo 1 hTG hB0.1 (by omega)]
    rw [h1, Int.add_zero] at q7
    rcases q7 with h | h | h <;> omega)
  have F2 : Hid (u ≠ 0 → 0 ≤ re ∧ 0 < pr ∧ pr ≤ re) := Lib.hid (fun h1 => by
    obtain ⟨q1, q2, q3, q4, q5⟩ := hU1.out
    have hr0 : 0 ≤ re := by
      refine Decidable.byContradiction fun h => h1 (q5 (by omega))
    obtain ⟨q6, q7, _⟩ := q4 hr0
    have := cum_mono ts 0 b.bo hTG hB0.1 u.toNat (by omega)
    rw [show ((u.toNat : Nat) : Int) = u by omega] at this
    exact ⟨hr0, by omega, q7⟩)
  have hBt : B.te = te ∧ B.de = pd ∧ B.fe = fe ∧ B.pr = pr ∧ B.ch = re - pr := by rw [hB, hpd, hfe, hpr, hre]; exact ⟨rfl, rfl, rfl, rfl, rfl⟩
  have hfs : (Debt.recL (te * tm.dbp / 10000) es).1 = fs := by rw [hf]; rfl
  have hpds : (Debt.recL (te * tm.dbp / 10000) es).2 = pd := by rw [hpd]; rfl
  rw [hfs, hpds] at HREC
  rw [hfs] at hfl
  have hfes : tm.fix + te * tm.bp / 10000 = fe := by rw [hfe]; rfl
  obtain ⟨sp, hsp⟩ : ∃ s, s = te * tm.bp / 10000 := ⟨_, rfl⟩
  have hsp1 : 0 ≤ sp ∧ sp ≤ 100000000 := by omega
  rw [← hsp] at hfes HPART
  have HFE := Lib.hid hfes
  have HRE := Lib.hid hrd.symm
  have hre1 : -300000000 ≤ re ∧ re ≤ 100000000 := by omega
  have hfix : 0 ≤ tm.fix ∧ tm.fix ≤ 100000 := hxo.1
  have hlen : fs.length ≤ ds.length := by omega
  clear hel hb he hbo hek hu hpr hB hc hf hpd hfe hre hsp hfs hpds hfes hrd hsh0 hbp0 hbp1 hdb1 p0 p1 hfk hfl hao hk hxo hTG hs1 hs8 hU1
  generalize costL (billL ts b.bo 1) = one at *
  obtain ⟨c0, c1, c2, c3, c4, c5⟩ := b
  obtain ⟨b0, b1, b2, b3, b4, b5, b6⟩ := B
  unfold Bl.vals at HS
  simp only at hBt hB0 HRO HPRI F1
  have HBT := Lib.hid hBt
  clear hBt
  obtain ⟨a0, a1, a2, a3, a4, a5⟩ := a
  obtain ⟨fix, bp, dbp, al⟩ := tm
  simp only at *
  go_enter Try.func5, Try.ntmps5
  go_wp2_with (fail)
  go_at_call 15
  refine (HG.out _ (HL.out.below (by repeat (first | with_reducible exact Below.refl _ _ | with_reducible refine Base.blw_alloc ?_ _ | with_reducible refine Below.drew ?_)))).mono ?_
  rintro e w1 ⟨D, dq, rfl, ho, hb⟩
  have HB1 : Hid (Below w.heap.size w w1) := Lib.hid (below_then' (by repeat (first | with_reducible exact Below.refl _ _ | with_reducible refine Base.blw_alloc ?_ _ | with_reducible refine Below.drew ?_)) hb)
  have CD1 := Lib.hid ((show Cs _ (w.heap.size + 1) [.slice M tl d2, .int .i64 y.ff, .int .i64 y.fb, .int .i64 y.db, .int .i64 y.al] from (by (repeat (first | (with_reducible refine Cs.new ?_; focus (first | rfl | (simp; done) | omega)) | with_reducible refine Cs.alloc ?_ _ | with_reducible refine Cs.drew ?_ | with_reducible refine Cs.drewN ?_ _ | (with_reducible refine Cs.other ?_ ?_ _; focus (first | omega | (simp; omega))) | with_reducible apply Cs.put)) <;> first | rfl | (simp; done))).after hb)
  have HD1 := Lib.hid ho.read
  have HN := Lib.hid ho.nil
  have hz1 := HB1.out.size
  have ld := CD1.out.1
  clear ho hb
  have q0 := (CD1.out.at 0 rfl).1
  have q1 := (CD1.out.at 1 rfl).1
  have q2 := (CD1.out.at 2 rfl).1
  have q3 := (CD1.out.at 3 rfl).1
  have q4 := (CD1.out.at 4 rfl).1
  go_wp2_with (fail)
  go_at_call 16
  refine (HA.out _ (HM.out.below (blw_alloc HB1.out _))).mono ?_
  rintro e w2 ⟨T, tq, rfl, ht, hb⟩
  have HB2 := Lib.hid (below_then' (blw_alloc HB1.out _) hb)
  have CA2 := Lib.hid ((show Cs _ w1.heap.size [.int .i64 a0, .int .i64 a1, .int .i64 a2, .int .i64 a3, .int .i64 a4, .int .i64 a5, .slice D ds.length dq] from (by (repeat (first | (with_reducible refine Cs.new ?_; focus (first | rfl | (simp; done) | omega)) | with_reducible refine Cs.alloc ?_ _ | with_reducible refine Cs.drew ?_ | with_reducible refine Cs.drewN ?_ _ | (with_reducible refine Cs.other ?_ ?_ _; focus (first | omega | (simp; omega))) | with_reducible apply Cs.put)) <;> first | rfl | (simp; done))).after hb)
  have HD2 := Lib.hid ((HD1.out.below (blw_alloc (Below.refl _ _) _)).below hb)
  have HT2 := Lib.hid ht
  have la := CA2.out.1
  clear ht hb q0 q1 q2 q3 q4 CD1 ld
  generalize w1.heap.size = pa at *
  clear HB1 HD1
  go_wp2_with (fail)
  go_at_call 10
  refine (picked_any _ _ _ (by omega) (by omega) (by omega)).mono ?_
  rintro e w' ⟨rfl, rfl⟩
  have x0 := (CA2.out.at 0 rfl).1
  have x1 := (CA2.out.at 1 rfl).1
  have x2 := (CA2.out.at 2 rfl).1
  have x3 := (CA2.out.at 3 rfl).1
  have x4 := (CA2.out.at 4 rfl).1
  have x5 := (CA2.out.at 5 rfl).1
  have x6 := (CA2.out.at 6 rfl).1
  go_wp2_with (fail)
  rw [HTE.out]
  go_quiet ((go_at_call 10; exact quiet_same (picked_any _ _ _ (by omega) (by omega) (by omega))))
  rw [HMO.out]
  have CA3 := Lib.hid ((CA2.out.alloc (.cells #[.slice T ts.length tq, .int .i64 fix, .int .i64 bp, .int .i64 dbp, .int .i64 al] 57)).drewN nq)
  have CT3 := Lib.hid ((Cs.new rfl : Cs (w2.alloc (.cells #[.slice T ts.length tq, .int .i64 fix, .int .i64 bp, .int .i64 dbp, .int .i64 al] 57)) w2.heap.size [.slice T ts.length tq, .int .i64 fix, .int .i64 bp, .int .i64 dbp, .int .i64 al]).drewN nq)
  have HB3 := Lib.hid (blw_step (blw_alloc HB2.out (.cells #[.slice T ts.length tq, .int .i64 fix, .int .i64 bp, .int .i64 dbp, .int .i64 al] 57)) nq)
  have HD3 := Lib.hid (HD2.out.below (blw_step (blw_alloc (Below.refl _ _) (.cells #[.slice T ts.length tq, .int .i64 fix, .int .i64 bp, .int .i64 dbp, .int .i64 al] 57)) nq))
  have HT3 := Lib.hid (HT2.out.below (blw_step (blw_alloc (Below.refl _ _) (.cells #[.slice T ts.length tq, .int .i64 fix, .int .i64 bp, .int .i64 dbp, .int .i64 al] 57)) nq))
  generalize (w2.alloc (.cells #[.slice T ts.length tq, .int .i64 fix, .int .i64 bp, .int .i64 dbp, .int .i64 al] 57)).drewN nq = w3 at *
  generalize w2.heap.size = pt at *
  clear x0 x1 x2 x3 x4 x5 x6 la CA2 HB2 HD2 HT2
  have la3 := CA3.out.1
  have lt3 := CT3.out.1
  have x0 := (CA3.out.at 0 rfl).1
  have x1 := (CA3.out.at 1 rfl).1
  have x2 := (CA3.out.at 2 rfl).1
  have x3 := (CA3.out.at 3 rfl).1
  have x4 := (CA3.out.at 4 rfl).1
  have x5 := (CA3.out.at 5 rfl).1
  have x6 := (CA3.out.at 6 rfl).1
  have y0 := (CT3.out.at 0 rfl).1
  have y1 := (CT3.out.at 1 rfl).1
  have y2 := (CT3.out.at 2 rfl).1
  have y3 := (CT3.out.at 3 rfl).1
  have y4 := (CT3.out.at 4 rfl).1
  go_wp2_with (fail)
  go_at_call 17
  refine (HS.out D dq T tq _ HD3.out HN.out HT3.out).mono ?_
  rintro e w4 ⟨hcase, hb⟩
  have HB4 := Lib.hid (below_then' HB3.out hb)
  have HD4 := Lib.hid (HD3.out.below hb)
  have HT4 := Lib.hid (HT3.out.below hb)
  have CA4 := Lib.hid (CA3.out.after hb)
  have CT4 := Lib.hid (CT3.out.after hb)
  clear hb x0 x1 x2 x3 x4 x5 x6 y0 y1 y2 y3 y4 la3 lt3
  have la4 := CA4.out.1
  have lt4 := CT4.out.1
  have x0 := (CA4.out.at 0 rfl).1
  have x1 := (CA4.out.at 1 rfl).1
  have x2 := (CA4.out.at 2 rfl).1
  have x3 := (CA4.out.at 3 rfl).1
  have x4 := (CA4.out.at 4 rfl).1
  have x5 := (CA4.out.at 5 rfl).1
  have x6 := (CA4.out.at 6 rfl).1
  rcases hcase with ⟨hu0, rfl⟩ | ⟨hu0, F, fq, rfl, _⟩
  · have F1' := Lib.hid (F1.out hu0)
    clear hu0
    go_wp2_with (fail)
    go_at_call 19
    refine (HRO.out D ds.length dq _ rfl (HD4.out.below (by repeat (first | with_reducible exact Below.refl _ _ | with_reducible refine Base.blw_alloc ?_ _ | with_reducible refine Below.drew ?_))) HN.out).mono ?_
    rintro e w5 ⟨E, eq, rfl, ho, hb⟩
    have HB5 := Lib.hid (below_then' (blw_alloc (blw_alloc HB4.out _) _) hb)
    have HE5 := Lib.hid ho.read
    have HT5 := Lib.hid ((HT4.out.below (blw_alloc (blw_alloc (Below.refl _ _) _) _)).below hb)
    have CA5 := Lib.hid (((CA4.out.alloc _).alloc _).after hb)
    have CT5 := Lib.hid (((CT4.out.alloc _).alloc _).after hb)
    have CB5 := Lib.hid ((show Cs _ (w4.heap.size + 1) [.int .i64 0, .int .i64 0, .int .i64 0, .int .i64 0, .int .i64 0, .int .i64 0, .int .i64 0] from (by (repeat (first | (with_reducible refine Cs.new ?_; focus (first | rfl | (simp; done) | omega)) | with_reducible refine Cs.alloc ?_ _ | with_reducible refine Cs.drew ?_ | with_reducible refine Cs.drewN ?_ _ | (with_reducible refine Cs.other ?_ ?_ _; focus (first | omega | (simp; omega))) | with_reducible apply Cs.put)) <;> first | rfl | (simp; done))).after hb)
    clear ho hb x0 x1 x2 x3 x4 x5 x6
    have la5 := CA5.out.1
    have lt5 := CT5.out.1
    have lb5 := CB5.out.1
    have y3 := (CT5.out.at 3 rfl).1
    have y2 := (CT5.out.at 2 rfl).1
    go_wp2_with (fail)
    go_at_call 20
    refine (HREC.out E eq _ (HE5.out.below (by repeat (first | with_reducible exact Below.refl _ _ | with_reducible refine Base.blw_alloc ?_ _ | with_reducible refine Below.drew ?_)))).mono ?_
    rintro e w6 ⟨G, gq, rfl, ho, hb⟩
    have HB6 := Lib.hid (below_then' (blw_alloc HB5.out _) hb)
    have HT6 := Lib.hid ((HT5.out.below (blw_alloc (Below.refl _ _) _)).below hb)
    have CA6 := Lib.hid ((CA5.out.alloc _).after hb)
    have CT6 := Lib.hid ((CT5.out.alloc _).after hb)
    have CB6 := Lib.hid ((CB5.out.alloc _).after hb)
    have CR6 := Lib.hid ((show Cs _ w5.heap.size [.int .i64 c0, .int .i64 c1, .int .i64 c2, .int .i64 c3, .int .i64 c4, .int .i64 c5, .slice E es.length eq] from (by (repeat (first | (with_reducible refine Cs.new ?_; focus (first | rfl | (simp; done) | omega)) | with_reducible refine Cs.alloc ?_ _ | with_reducible refine Cs.drew ?_ | with_reducible refine Cs.drewN ?_ _ | (with_reducible refine Cs.other ?_ ?_ _; focus (first | omega | (simp; omega))) | with_reducible apply Cs.put)) <;> first | rfl | (simp; done))).after hb)
    clear ho hb y2 y3
    have x6 := (CA6.out.at 6 rfl).1
    have y0 := (CT6.out.at 0 rfl).1
    have y1 := (CT6.out.at 1 rfl).1
    have y2 := (CT6.out.at 2 rfl).1
    have r4 := (CR6.out.at 4 rfl).1
    have z1 := (CB6.out.at 1 rfl).1
    have z2 := (CB6.out.at 2 rfl).1
    have z3 := (CB6.out.at 3 rfl).1
    have z4 := (CB6.out.at 4 rfl).1
    have z5 := (CB6.out.at 5 rfl).1
    go_wp2_with (fail)
    go_at_call 21
    refine (HPART.out _).mono ?_
    rintro e w' ⟨rfl, rfl⟩
    have hle : ¬ (ds.length : Int) < (fs.length : Int) := by omega
    have hle2 : decide (ds.length < fs.length) = false := decide_eq_false (by omega)
    go_upto_region 12 with fail
    rw [HFE.out]
    go_upto_region 13 with fail
    rw [HRE.out]
    by_cases hr0 : re < 0
    · go_wp2_with (fail)
      go_ret
      exact ⟨rfl, HB6.out⟩
    · by_cases hc4 : c4 = 10000000
      · have e4 : (c4 == 10000000) = true := by simp [hc4]
        have HC4 := Lib.hid hc4
        clear hc4
        go_wp2_with (fail)
        go_ret
        exact ⟨rfl, HB6.out⟩
      · have e4 : (c4 == 10000000) = false := by simp [hc4]
        have hone : re < one := F1'.out (by omega) (by have := hB0.2; omega)
        have hc5 : c4 + 1 ≤ 10000000 := by have := hB0.2; omega
        clear hc4
        go_wp2_with (fail)
        go_at_call 18
        refine (HPRI.out T tq _ HT6.out hc5).mono ?_
        rintro e w7 ⟨rfl, hb⟩
        have HB7 := Lib.hid (below_then' HB6.out hb)
        clear hb
        go_wp2_with (fail)
        go_ret
        exact ⟨rfl, HB7.out⟩
  · have F2' := Lib.hid (F2.out hu0)
    clear hu0
    go_wp2_with (fail)
    go_at_call 19
    refine (HRO.out D ds.length dq _ rfl (HD4.out.below (by repeat (first | with_reducible exact Below.refl _ _ | with_reducible refine Base.blw_alloc ?_ _ | with_reducible refine Below.drew ?_))) HN.out).mono ?_
    rintro e w5 ⟨E, eq, rfl, ho, hb⟩
    have HB5 := Lib.hid (below_then' (blw_alloc (blw_alloc HB4.out _) _) hb)
    have HE5 := Lib.hid ho.read
    have HT5 := Lib.hid ((HT4.out.below (blw_alloc (blw_alloc (Below.refl _ _) _) _)).below hb)
    have CA5 := Lib.hid (((CA4.out.alloc _).alloc _).after hb)
    have CT5 := Lib.hid (((CT4.out.alloc _).alloc _).after hb)
    have CB5 := Lib.hid ((show Cs _ (w4.heap.size + 1) [.int .i64 b0, .int .i64 b1, .int .i64 b2, .int .i64 b3, .int .i64 b4, .int .i64 b5, .int .i64 b6] from (by (repeat (first | (with_reducible refine Cs.new ?_; focus (first | rfl | (simp; done) | omega)) | with_reducible refine Cs.alloc ?_ _ | with_reducible refine Cs.drew ?_ | with_reducible refine Cs.drewN ?_ _ | (with_reducible refine Cs.other ?_ ?_ _; focus (first | omega | (simp; omega))) | with_reducible apply Cs.put)) <;> first | rfl | (simp; done))).after hb)
    clear ho hb x0 x1 x2 x3 x4 x5 x6
    have la5 := CA5.out.1
    have lt5 := CT5.out.1
    have lb5 := CB5.out.1
    have y3 := (CT5.out.at 3 rfl).1
    have y2 := (CT5.out.at 2 rfl).1
    go_wp2_with (fail)
    go_at_call 20
    refine (HREC.out E eq _ (HE5.out.below (by repeat (first | with_reducible exact Below.refl _ _ | with_reducible refine Base.blw_alloc ?_ _ | with_reducible refine Below.drew ?_)))).mono ?_
    rintro e w6 ⟨G, gq, rfl, ho, hb⟩
    have HB6 := Lib.hid (below_then' (blw_alloc HB5.out _) hb)
    have HT6 := Lib.hid ((HT5.out.below (blw_alloc (Below.refl _ _) _)).below hb)
    have CA6 := Lib.hid ((CA5.out.alloc _).after hb)
    have CT6 := Lib.hid ((CT5.out.alloc _).after hb)
    have CB6 := Lib.hid ((CB5.out.alloc _).after hb)
    have CR6 := Lib.hid ((show Cs _ w5.heap.size [.int .i64 c0, .int .i64 c1, .int .i64 c2, .int .i64 c3, .int .i64 c4, .int .i64 c5, .slice E es.length eq] from (by (repeat (first | (with_reducible refine Cs.new ?_; focus (first | rfl | (simp; done) | omega)) | with_reducible refine Cs.alloc ?_ _ | with_reducible refine Cs.drew ?_ | with_reducible refine Cs.drewN ?_ _ | (with_reducible refine Cs.other ?_ ?_ _; focus (first | omega | (simp; omega))) | with_reducible apply Cs.put)) <;> first | rfl | (simp; done))).after hb)
    clear ho hb y2 y3
    have x6 := (CA6.out.at 6 rfl).1
    have y0 := (CT6.out.at 0 rfl).1
    have y1 := (CT6.out.at 1 rfl).1
    have y2 := (CT6.out.at 2 rfl).1
    have r4 := (CR6.out.at 4 rfl).1
    have z1 := (CB6.out.at 1 rfl).1
    have z2 := (CB6.out.at 2 rfl).1
    have z3 := (CB6.out.at 3 rfl).1
    have z4 := (CB6.out.at 4 rfl).1
    have z5 := (CB6.out.at 5 rfl).1
    go_wp2_with (fail)
    go_at_call 21
    refine (HPART.out _).mono ?_
    rintro e w' ⟨rfl, rfl⟩
    have hle : ¬ (ds.length : Int) < (fs.length : Int) := by omega
    have hle2 : decide (ds.length < fs.length) = false := decide_eq_false (by omega)
    go_upto_region 12 with fail
    rw [HFE.out]
    go_upto_region 13 with fail
    rw [HRE.out]
    obtain ⟨f1, f2, f3⟩ := F2'.out
    obtain ⟨k1, k2, k3, k4, k5⟩ := HBT.out
    rw [k1] at z1
    rw [k2] at z2
    rw [k3] at z3
    rw [k4] at z4
    rw [k5] at z5
    clear k1 k2 k3 k4 k5 HBT
    have g1 : (te == te) = true := by simp
    have g2 : (pd == pd) = true := by simp
    have g3 : (fe == fe) = true := by simp
    have g4 : 0 ≤ re - pr := by omega
    have g5 : (pr + (re - pr) == re) = true := by simp; omega
    have g6 : pr + (re - pr) = re := by omega
    have G6 := Lib.hid g6
    clear g6
    go_wp2_with (fail)
    go_ret
    exact ⟨rfl, HB6.out⟩
end Go.Proofs.Ytfdgjaahmbjnpaa.SellAdds
