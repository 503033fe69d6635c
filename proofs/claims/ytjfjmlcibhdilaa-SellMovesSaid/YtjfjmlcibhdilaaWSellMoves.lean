/- The walk of SellMoves. -/
import Derived.Test.YtjfjmlcibhdilaaOpenGn
import Derived.Test.YtjfjmlcibhdilaaAgr
import Derived.Test.YtjfjmlcibhdilaaSell2
import Derived.Deep.RegionHeld3
namespace Go.Proofs.Ytjfjmlcibhdilaa.SellMoves
open Go.RowKit Go.Proofs.Ytjfjmlcibhdilaa.Base Go.Proofs.Ytjfjmlcibhdilaa.Tar Go.Proofs.Ytjfjmlcibhdilaa.Acc
set_option linter.unusedVariables false
set_option linter.unusedSimpArgs false
set_option maxRecDepth 20000
theorem roll_call (a : Ac) (m : Int) (ds : List Debt.Db) (A : Option Addr) (n q : Nat) (w : World) (hl : n = ds.length) (hr : RdE 2 Debt.Db.enc w A ds) (hn : ds.length ≤ 8) (hk : ∀ x ∈ ds, x.ok) (hA : A = none → ds = [] ∧ q = 0) (ha : a.ok) (m0 : a.mo ≤ m) (m1 : m ≤ 2399) (b : Ac) (hb : b = rollA a m) (es : List Debt.Db) (he : es = Debt.ageL (m - a.mo).toNat ds) :
    Calls Try.prog 32 #[.agg #[.int .i64 a.me, .int .i64 a.rev, .int .i64 a.nx, .int .i64 a.mo, .int .i64 a.bo, .int .i64 a.fr, .slice A n q], .int .i64 m] w fun e w' => ∃ D dq, e = .returned (.tuple #[.agg #[.int .i64 b.me, .int .i64 b.rev, .int .i64 b.nx, .int .i64 b.mo, .int .i64 b.bo, .int .i64 b.fr, .slice D es.length dq], .int .i64 0]) ∧ Debt.OwDb w.heap.size w' D dq es ∧ Below w.heap.size w w' := by
  subst hb he hl
  exact Roll_any a ds A q m w hr hn hk hA ha m0 m1
set_option maxHeartbeats 8000000 in
theorem walk (x : Gn) (xs : List Value) (y : Dl) (ys : List Value) (tn la : Int) (w : World) (hx : ∃ L d, xs = gnv x L x.ds.length d ∧ RdE 2 Debt.Ow.enc w L x.ds ∧ x.ok) (hy : ∃ L d, ys = dlv y L y.tf.length d ∧ RdE 2 Debt.Ow.enc w L y.tf ∧ y.ok) (wtn : (Lit.int .i64 tn).wf = true) (wla : (Lit.int .i64 la).wf = true) :
    Calls Try.prog 14 #[.agg xs.toArray, .agg ys.toArray, .int .i64 tn, .int .i64 la] w fun e w' => e = .returned (.bool true) ∧ Below w.heap.size w w' := by
  obtain ⟨L, d, rfl, hl, hx⟩ := hx
  obtain ⟨M, d2, rfl, hm, hy⟩ := hy
  obtain ⟨tn0, tn1⟩ := i64_bound wtn
  obtain ⟨la0, la1⟩ := i64_bound wla
  have HG := Lib.hid (fun W hW => gone_any x L d W hW hx)
  have HA := Lib.hid (fun W hW => agreed_any y M d2 W hW hy)
  have HL := Lib.hid hl
  have HM := Lib.hid hm
  have hao := gone_ok x
  have hnx : 1 ≤ (goneA x).nx ∧ (goneA x).nx ≤ 1048574 := by have := pk_bound x.nx 1048574 (by omega); unfold goneA; simp only; omega
  have hmo : 0 ≤ (goneA x).mo ∧ (goneA x).mo ≤ 2398 := by have := pk_bound x.mo 2399 (by omega); unfold goneA; simp only; omega
  have hk := Debt.owingL_ok x.ds 1000000000 (by omega) (by omega)
  have hn := Debt.owingL_len x.ds 1000000000
  have hxo := agreed_ok y
  have hTG := stepped_TG y.tf
  obtain ⟨hs1, hs8⟩ := stepped_len y.tf
  clear hl hm hx hy wtn wla
  generalize goneA x = a at *
  generalize Debt.owingL x.ds 1000000000 = ds at *
  generalize agreedX y = tm at *
  generalize steppedL y.tf = ts at *
  unfold gnv dlv
  generalize x.ds.length = ol at *
  generalize y.tf.length = tl at *
  have hp1 := pk_bound tn 100000000 (by omega)
  obtain ⟨te, hte⟩ : ∃ t, t = 1 + pk tn 100000000 := ⟨_, rfl⟩
  have ht0 : 1 ≤ te := by omega
  have ht1 : te ≤ 100000000 := by omega
  have HTE := Lib.hid hte.symm
  clear hte
  have hp2 := pk_bound la (2399 - a.mo + 1) (by omega)
  obtain ⟨m, hm⟩ : ∃ m, m = a.mo + pk la (2399 - a.mo + 1) := ⟨_, rfl⟩
  have hm0 : a.mo ≤ m := by omega
  have hm1 : m ≤ 2399 := by omega
  have HMO := Lib.hid hm.symm
  clear hm
  obtain ⟨b, hb⟩ : ∃ b, b = rollA a m := ⟨_, rfl⟩
  obtain ⟨es, he⟩ : ∃ e, e = Debt.ageL (m - a.mo).toNat ds := ⟨_, rfl⟩
  have hbo : b.ok := by rw [hb]; exact roll_ok a m hao hm0 hm1
  have hel : es.length = ds.length := by rw [he, age_len]
  have hek : ∀ x ∈ es, x.ok := by rw [he]; exact age_ok _ _ hk
  obtain ⟨u, hu⟩ : ∃ u, u = (sellU b es ts tm te).1 := ⟨_, rfl⟩
  obtain ⟨pr, hpr⟩ : ∃ u, u = (sellU b es ts tm te).2 := ⟨_, rfl⟩
  obtain ⟨B, hB⟩ : ∃ B, B = sellB b es ts tm te := ⟨_, rfl⟩
  obtain ⟨c, hc⟩ : ∃ c, c = sellA b es ts tm te := ⟨_, rfl⟩
  obtain ⟨fs, hf⟩ : ∃ f, f = (sellD es tm te).1 := ⟨_, rfl⟩
  obtain ⟨pd, hpd⟩ : ∃ f, f = (sellD es tm te).2 := ⟨_, rfl⟩
  obtain ⟨fe, hfe⟩ : ∃ f, f = sellF tm te := ⟨_, rfl⟩
  obtain ⟨re, hre⟩ : ∃ f, f = sellR es tm te := ⟨_, rfl⟩
  have HS := Lib.hid (fun A q T tq W hr hA ht => Sell_any a ds A q ts T tq tm te m W hr hn hk hA hao ht hTG hs1 hs8 hxo hm0 hm1 (by omega) ht0 ht1 b hb es he u hu B hB c hc fs hf)
  have hsh0 : 0 ≤ te * tm.dbp / 10000 := Int.ediv_nonneg (Int.mul_nonneg (by omega) hxo.2.2.1.1) (by omega)
  have hbp0 : 0 ≤ te * tm.bp := Int.mul_nonneg (by omega) hxo.2.1.1
  have hbp1 : te * tm.bp ≤ 100000000 * 10000 := Int.mul_le_mul ht1 hxo.2.1.2 hxo.2.1.1 (by omega)
  have hdb1 : te * tm.dbp ≤ 100000000 * 10000 := Int.mul_le_mul ht1 hxo.2.2.1.2 hxo.2.2.1.1 (by omega)
  have hinv := Debt.recL_inv (te * tm.dbp / 10000) hsh0 es hek
  obtain ⟨⟨p0, p1⟩, hfk, hfl⟩ := hinv
  have hfe0 : 0 ≤ fe ∧ fe ≤ 100100000 := by have := hxo.1; rw [hfe]; unfold sellF; omega
  have hrd : re = te - pd - fe := by rw [hre, hpd, hfe]; rfl
  have hpd0 : 0 ≤ pd ∧ pd ≤ 100000000 := by rw [hpd]; exact ⟨p0, by show (Debt.recL _ es).2 ≤ _; omega⟩
  have hB0 := hbo.2.2.2.2.1
  have hU1 : Hid (0 ≤ u ∧ u ≤ 2097151 ∧ b.bo + u ≤ 10000000 ∧ (0 ≤ re → pr = cum 0 ts (b.bo + u) - cum 0 ts b.bo ∧ pr ≤ re ∧ (u = 2097151 ∨ b.bo + u = 10000000 ∨ re < cum 0 ts (b.bo + u + 1) - cum 0 ts b.bo)) ∧ (re < 0 → u = 0)) := Lib.hid (by
    rw [hu, hpr]
    unfold sellU
    rw [← hre]
    by_cases hr0 : 0 ≤ re
    · rw [if_pos hr0]
      obtain ⟨q1, q2, q3, q4, q5, q6, q7⟩ := most_law re ts 0 b.bo 0 0 hTG hB0.1 hB0.2 (by omega) hr0 (by omega) (by omega) _ rfl
      simp only [Int.sub_zero] at q3 q6 q7
      exact ⟨q1, q2, q3, fun _ => ⟨by omega, q5, by rw [Int.zero_add] at q7; exact q7⟩, fun h => by omega⟩
    · rw [if_neg hr0]
      exact ⟨Int.le_refl _, by show (0 : Int) ≤ 2097151; omega, by show b.bo + 0 ≤ 10000000; omega, fun h => absurd h hr0, fun _ => rfl⟩)
  have HRO := Lib.hid (fun A n q W hq hr hA => roll_call a m ds A n q W hq hr hn hk hA hao hm0 hm1 b hb es he)
  have HTE2 := Lib.hid (fun A q W hr => Debt.Total_any es A q W hr (by omega) hek)
  have hbt : B.id = b.nx ∧ B.de = pd ∧ B.un = u ∧ c.nx = b.nx + 1 ∧ c.bo = b.bo + u ∧ c.me = b.me ∧ c.rev = b.rev ∧ c.fr = b.fr := by rw [hB, hpd, hu, hc]; exact ⟨rfl, rfl, rfl, rfl, rfl, rfl, rfl, rfl⟩
  have hbr : b.mo = m ∧ b.nx = a.nx ∧ b.me = a.me ∧ b.rev = a.rev ∧ b.fr = a.fr := by rw [hb]; exact ⟨rfl, rfl, rfl, rfl, rfl⟩
  obtain ⟨hsum, _⟩ := Debt.rec_sum (te * tm.dbp / 10000) hsh0 es hek
  have hfs : (Debt.recL (te * tm.dbp / 10000) es).1 = fs := by rw [hf]; rfl
  have hpds : (Debt.recL (te * tm.dbp / 10000) es).2 = pd := by rw [hpd]; rfl
  rw [hfs, hpds] at hsum
  rw [hfs] at hfl hfk
  have HTF := Lib.hid (fun A q W hr => Debt.Total_any fs A q W hr (by omega) (fun x hx => (hfk x hx).1))
  obtain ⟨s0, s1⟩ := Debt.sumD_bd es hek
  obtain ⟨v0, v1⟩ := Debt.sumD_bd fs (fun x hx => (hfk x hx).1)
  have HSM := Lib.hid hsum
  have hes8 : es.length ≤ 8 := by omega
  have hfs8 : fs.length ≤ 8 := by omega
  have HBT := Lib.hid hbt
  have HBR := Lib.hid hbr
  have hub : 0 ≤ u ∧ u ≤ 2097151 ∧ b.bo + u ≤ 10000000 := ⟨hU1.out.1, hU1.out.2.1, hU1.out.2.2.1⟩
  clear hel hb he hbo hek hu hpr hB hc hf hpd hfe hre hfs hpds hrd hsh0 hbp0 hbp1 hdb1 p0 p1 hfk hfl hao hk hxo hTG hs1 hs8 hU1 hsum hbt hbr
  generalize Debt.sumD es = se at *
  generalize Debt.sumD fs = sf at *
  obtain ⟨g0, g1, g2, g3, g4, g5⟩ := b
  obtain ⟨b0, b1, b2, b3, b4, b5, b6⟩ := B
  unfold Bl.vals at HS
  simp only at HBT HBR HRO hub hB0
  obtain ⟨a0, a1, a2, a3, a4, a5⟩ := a
  obtain ⟨fix, bp, dbp, al⟩ := tm
  simp only at *
  go_enter Try.func14, Try.ntmps14
  go_wp2_with (fail)
  go_at_call 17
  refine (HG.out _ (HL.out.below (by repeat (first | with_reducible exact Below.refl _ _ | with_reducible refine Base.blw_alloc ?_ _ | with_reducible refine Below.drew ?_)))).mono ?_
  rintro e w1 ⟨D, dq, rfl, ho, hb⟩
  have HB1 : Hid (Below w.heap.size w w1) := Lib.hid (below_then' (by repeat (first | with_reducible exact Below.refl _ _ | with_reducible refine Base.blw_alloc ?_ _ | with_reducible refine Below.drew ?_)) hb)
  have CD1 := Lib.hid ((show Cs _ (w.heap.size + 1) [.slice M tl d2, .int .i64 y.ff, .int .i64 y.fb, .int .i64 y.db, .int .i64 y.al] from (by (repeat (first | (with_reducible refine Cs.new ?_; focus (first | rfl | (simp; done) | omega)) | with_reducible refine Cs.alloc ?_ _ | with_reducible refine Cs.drew ?_ | with_reducible refine Cs.drewN ?_ _ | (with_reducible refine Cs.other ?_ ?_ _; focus (first | omega | (simp; omega))) | with_reducible apply Cs.put)) <;> first | rfl | (simp; done))).after hb)
  have HD1 := Lib.hid ho.read
  have HN := Lib.hid ho.nil
  have hz1 := HB1.out.size
  have ld := CD1.out.1
  clear ho hb
  have q0 := (CD1.out.at 0 rfl).1
  have q1 := (CD1.out.at 1 rfl).1
  have q2 := (CD1.out.at 2 rfl).1
  have q3 := (CD1.out.at 3 rfl).1
  have q4 := (CD1.out.at 4 rfl).1
  go_wp2_with (fail)
  go_at_call 18
  refine (HA.out _ (HM.out.below (blw_alloc HB1.out _))).mono ?_
  rintro e w2 ⟨T, tq, rfl, ht, hb⟩
  have HB2 := Lib.hid (below_then' (blw_alloc HB1.out _) hb)
  have CA2 := Lib.hid ((show Cs _ w1.heap.size [.int .i64 a0, .int .i64 a1, .int .i64 a2, .int .i64 a3, .int .i64 a4, .int .i64 a5, .slice D ds.length dq] from (by (repeat (first | (with_reducible refine Cs.new ?_; focus (first | rfl | (simp; done) | omega)) | with_reducible refine Cs.alloc ?_ _ | with_reducible refine Cs.drew ?_ | with_reducible refine Cs.drewN ?_ _ | (with_reducible refine Cs.other ?_ ?_ _; focus (first | omega | (simp; omega))) | with_reducible apply Cs.put)) <;> first | rfl | (simp; done))).after hb)
  have HD2 := Lib.hid ((HD1.out.below (blw_alloc (Below.refl _ _) _)).below hb)
  have HT2 := Lib.hid ht
  have la := CA2.out.1
  clear ht hb q0 q1 q2 q3 q4 CD1 ld
  generalize w1.heap.size = pa at *
  clear HB1 HD1
  have x0 := (CA2.out.at 0 rfl).1
  have x1 := (CA2.out.at 1 rfl).1
  have x2 := (CA2.out.at 2 rfl).1
  have x3 := (CA2.out.at 3 rfl).1
  have x4 := (CA2.out.at 4 rfl).1
  have x5 := (CA2.out.at 5 rfl).1
  have x6 := (CA2.out.at 6 rfl).1
  go_wp2_with (fail)
  go_quiet ((go_at_call 19; exact quiet_same (picked_any _ _ _ (by omega) (by omega) (by omega))))
  rw [HMO.out]
  have CA3 := Lib.hid ((CA2.out.alloc (.cells #[.slice T ts.length tq, .int .i64 fix, .int .i64 bp, .int .i64 dbp, .int .i64 al] 42)).drewN nq)
  have CT3 := Lib.hid ((Cs.new rfl : Cs (w2.alloc (.cells #[.slice T ts.length tq, .int .i64 fix, .int .i64 bp, .int .i64 dbp, .int .i64 al] 42)) w2.heap.size [.slice T ts.length tq, .int .i64 fix, .int .i64 bp, .int .i64 dbp, .int .i64 al]).drewN nq)
  have HB3 := Lib.hid (blw_step (blw_alloc HB2.out (.cells #[.slice T ts.length tq, .int .i64 fix, .int .i64 bp, .int .i64 dbp, .int .i64 al] 42)) nq)
  have HD3 := Lib.hid (HD2.out.below (blw_step (blw_alloc (Below.refl _ _) (.cells #[.slice T ts.length tq, .int .i64 fix, .int .i64 bp, .int .i64 dbp, .int .i64 al] 42)) nq))
  have HT3 := Lib.hid (HT2.out.below (blw_step (blw_alloc (Below.refl _ _) (.cells #[.slice T ts.length tq, .int .i64 fix, .int .i64 bp, .int .i64 dbp, .int .i64 al] 42)) nq))
  generalize (w2.alloc (.cells #[.slice T ts.length tq, .int .i64 fix, .int .i64 bp, .int .i64 dbp, .int .i64 al] 42)).drewN nq = w3 at *
  generalize w2.heap.size = pt at *
  clear x0 x1 x2 x3 x4 x5 x6 la CA2 HB2 HD2 HT2
  have la3 := CA3.out.1
  have lt3 := CT3.out.1
  have x0 := (CA3.out.at 0 rfl).1
  have x1 := (CA3.out.at 1 rfl).1
  have x2 := (CA3.out.at 2 rfl).1
  have x3 := (CA3.out.at 3 rfl).1
  have x4 := (CA3.out.at 4 rfl).1
  have x5 := (CA3.out.at 5 rfl).1
  have x6 := (CA3.out.at 6 rfl).1
  have y0 := (CT3.out.at 0 rfl).1
  have y1 := (CT3.out.at 1 rfl).1
  have y2 := (CT3.out.at 2 rfl).1
  have y3 := (CT3.out.at 3 rfl).1
  have y4 := (CT3.out.at 4 rfl).1
  have hwt : IntKind.i64.wrap (1 + pk tn 100000000) = te := by rw [Base.wrap64 _ (by omega) (by omega)]; exact HTE.out
  go_upto_region 4 with fail
  by_cases hu0 : u = 0
  · have HSF := Lib.hid (fun W (h1 : RdE 2 Debt.Db.enc W D ds) (h2 : RdE 2 Stp.enc W T ts) => (HS.out D dq T tq W h1 HN.out h2).mono (R' := fun e w' => e = .returned (.tuple #[.agg #[.int .i64 0, .int .i64 0, .int .i64 0, .int .i64 0, .int .i64 0, .int .i64 0, .slice none 0 0], .agg #[.int .i64 0, .int .i64 0, .int .i64 0, .int .i64 0, .int .i64 0, .int .i64 0, .int .i64 0], .int .i64 19]) ∧ Below W.heap.size W w') fun e w' ⟨h, hb⟩ => by
      rcases h with ⟨_, h⟩ | ⟨h, _⟩
      · exact ⟨h, hb⟩
      · exact absurd hu0 h)
    have HU0 := Lib.hid hu0
    clear hu0
    go_cut [12, 13, 14] (fun v1 v2 v3 wx => ∃ p q , v1 = .pointer (some ⟨p, 0, none⟩) ∧ v2 = .pointer (some ⟨q, 0, none⟩) ∧ v3 = .int .i64 19 ∧ w3.heap.size ≤ p ∧ w3.heap.size ≤ q ∧ p ≠ q ∧ Cs wx p [.int .i64 0, .int .i64 0, .int .i64 0, .int .i64 0, .int .i64 0, .int .i64 0, .slice none 0 0] ∧ Cs wx q [.int .i64 0, .int .i64 0, .int .i64 0, .int .i64 0, .int .i64 0, .int .i64 0, .int .i64 0] ∧ Below w3.heap.size w3 wx)
    case first =>
      have na1 : pa ≠ w3.heap.size := by omega
      have na2 : pa ≠ w3.heap.size + 1 := by omega
      have nt1 : pt ≠ w3.heap.size := by omega
      have nt2 : pt ≠ w3.heap.size + 1 := by omega
      have na3 : w3.heap.size ≠ pa := by omega
      have na4 : w3.heap.size + 1 ≠ pa := by omega
      have nt3 : w3.heap.size ≠ pt := by omega
      have nt4 : w3.heap.size + 1 ≠ pt := by omega
      have ns1 : w3.heap.size ≠ w3.heap.size + 1 := by omega
      have ns2 : w3.heap.size + 1 ≠ w3.heap.size := by omega
      go_region_held3 (fun w' => w'.cell? ⟨pa, 0, none⟩ = some (.int .i64 a0) ∧ w'.cell? ⟨pa, 1, none⟩ = some (.int .i64 a1) ∧ w'.cell? ⟨pa, 2, none⟩ = some (.int .i64 a2) ∧ w'.cell? ⟨pa, 3, none⟩ = some (.int .i64 a3) ∧ w'.cell? ⟨pa, 4, none⟩ = some (.int .i64 a4) ∧ w'.cell? ⟨pa, 5, none⟩ = some (.int .i64 a5) ∧ w'.cell? ⟨pa, 6, none⟩ = some (.slice D ds.length dq) ∧ w'.cell? ⟨pt, 0, none⟩ = some (.slice T ts.length tq) ∧ w'.cell? ⟨pt, 1, none⟩ = some (.int .i64 fix) ∧ w'.cell? ⟨pt, 2, none⟩ = some (.int .i64 bp) ∧ w'.cell? ⟨pt, 3, none⟩ = some (.int .i64 dbp) ∧ w'.cell? ⟨pt, 4, none⟩ = some (.int .i64 al)) (go_keep) (first | (go_at_call 19; refine (picked_any _ _ _ (by omega) (by omega) (by omega)).mono ?_; rintro e w' ⟨rfl, rfl⟩) | (go_at_call 29; refine (HSF.out _ (HD3.out.below (by repeat (first | with_reducible exact Below.refl _ _ | with_reducible refine Base.blw_alloc ?_ _ | with_reducible refine Below.drew ?_))) (HT3.out.below (by repeat (first | with_reducible exact Below.refl _ _ | with_reducible refine Base.blw_alloc ?_ _ | with_reducible refine Below.drew ?_)))).mono ?_; rintro e w4 ⟨rfl, hb⟩; have HBX : Hid (Below w3.heap.size w3 w4) := Lib.hid (below_then' (by repeat (first | with_reducible exact Below.refl _ _ | with_reducible refine Base.blw_alloc ?_ _ | with_reducible refine Below.drew ?_)) hb); have hsx := HBX.out.size; have CAX := Lib.hid (CA3.out.after HBX.out); have CTX := Lib.hid (CT3.out.after HBX.out); have xq0 := (CAX.out.at 0 rfl).1; have xq1 := (CAX.out.at 1 rfl).1; have xq2 := (CAX.out.at 2 rfl).1; have xq3 := (CAX.out.at 3 rfl).1; have xq4 := (CAX.out.at 4 rfl).1; have xq5 := (CAX.out.at 5 rfl).1; have xq6 := (CAX.out.at 6 rfl).1; have yq0 := (CTX.out.at 0 rfl).1; have yq1 := (CTX.out.at 1 rfl).1; have yq2 := (CTX.out.at 2 rfl).1; have yq3 := (CTX.out.at 3 rfl).1; have yq4 := (CTX.out.at 4 rfl).1; have lax := CAX.out.1; have ltx := CTX.out.1; (first | (refine (fun (AP : Hid (Cs w4 (w3.heap.size) [.int .i64 0, .int .i64 0, .int .i64 0, .int .i64 0, .int .i64 0, .int .i64 0, .slice none 0 0])) => ?_) (Lib.hid (Cs.after ?_ hb)); rotate_left; (focus ((repeat (first | (with_reducible refine Cs.new ?_; focus (first | rfl | (simp; done) | omega)) | with_reducible refine Cs.alloc ?_ _ | with_reducible refine Cs.drew ?_ | with_reducible refine Cs.drewN ?_ _ | (with_reducible refine Cs.other ?_ ?_ _; focus (first | omega | (simp; omega))) | with_reducible apply Cs.put)) <;> first | rfl | (simp; done))); have APz0 := (AP.out.at 0 rfl).1; have APy0 := (AP.out.at 0 rfl).2; have APz1 := (AP.out.at 1 rfl).1; have APy1 := (AP.out.at 1 rfl).2; have APz2 := (AP.out.at 2 rfl).1; have APy2 := (AP.out.at 2 rfl).2; have APz3 := (AP.out.at 3 rfl).1; have APy3 := (AP.out.at 3 rfl).2; have APz4 := (AP.out.at 4 rfl).1; have APy4 := (AP.out.at 4 rfl).2; have APz5 := (AP.out.at 5 rfl).1; have APy5 := (AP.out.at 5 rfl).2; have APz6 := (AP.out.at 6 rfl).1; have APy6 := (AP.out.at 6 rfl).2; have lAP := AP.out.1) | skip); (first | (refine (fun (AQ : Hid (Cs w4 (w3.heap.size + 1) [.int .i64 0, .int .i64 0, .int .i64 0, .int .i64 0, .int .i64 0, .int .i64 0, .slice none 0 0])) => ?_) (Lib.hid (Cs.after ?_ hb)); rotate_left; (focus ((repeat (first | (with_reducible refine Cs.new ?_; focus (first | rfl | (simp; done) | omega)) | with_reducible refine Cs.alloc ?_ _ | with_reducible refine Cs.drew ?_ | with_reducible refine Cs.drewN ?_ _ | (with_reducible refine Cs.other ?_ ?_ _; focus (first | omega | (simp; omega))) | with_reducible apply Cs.put)) <;> first | rfl | (simp; done))); have AQz0 := (AQ.out.at 0 rfl).1; have AQy0 := (AQ.out.at 0 rfl).2; have AQz1 := (AQ.out.at 1 rfl).1; have AQy1 := (AQ.out.at 1 rfl).2; have AQz2 := (AQ.out.at 2 rfl).1; have AQy2 := (AQ.out.at 2 rfl).2; have AQz3 := (AQ.out.at 3 rfl).1; have AQy3 := (AQ.out.at 3 rfl).2; have AQz4 := (AQ.out.at 4 rfl).1; have AQy4 := (AQ.out.at 4 rfl).2; have AQz5 := (AQ.out.at 5 rfl).1; have AQy5 := (AQ.out.at 5 rfl).2; have AQz6 := (AQ.out.at 6 rfl).1; have AQy6 := (AQ.out.at 6 rfl).2; have lAQ := AQ.out.1) | skip); (first | (refine (fun (BP : Hid (Cs w4 (w3.heap.size) [.int .i64 0, .int .i64 0, .int .i64 0, .int .i64 0, .int .i64 0, .int .i64 0, .int .i64 0])) => ?_) (Lib.hid (Cs.after ?_ hb)); rotate_left; (focus ((repeat (first | (with_reducible refine Cs.new ?_; focus (first | rfl | (simp; done) | omega)) | with_reducible refine Cs.alloc ?_ _ | with_reducible refine Cs.drew ?_ | with_reducible refine Cs.drewN ?_ _ | (with_reducible refine Cs.other ?_ ?_ _; focus (first | omega | (simp; omega))) | with_reducible apply Cs.put)) <;> first | rfl | (simp; done))); have BPz0 := (BP.out.at 0 rfl).1; have BPy0 := (BP.out.at 0 rfl).2; have BPz1 := (BP.out.at 1 rfl).1; have BPy1 := (BP.out.at 1 rfl).2; have BPz2 := (BP.out.at 2 rfl).1; have BPy2 := (BP.out.at 2 rfl).2; have BPz3 := (BP.out.at 3 rfl).1; have BPy3 := (BP.out.at 3 rfl).2; have BPz4 := (BP.out.at 4 rfl).1; have BPy4 := (BP.out.at 4 rfl).2; have BPz5 := (BP.out.at 5 rfl).1; have BPy5 := (BP.out.at 5 rfl).2; have BPz6 := (BP.out.at 6 rfl).1; have BPy6 := (BP.out.at 6 rfl).2; have lBP := BP.out.1) | skip); (first | (refine (fun (BQ : Hid (Cs w4 (w3.heap.size + 1) [.int .i64 0, .int .i64 0, .int .i64 0, .int .i64 0, .int .i64 0, .int .i64 0, .int .i64 0])) => ?_) (Lib.hid (Cs.after ?_ hb)); rotate_left; (focus ((repeat (first | (with_reducible refine Cs.new ?_; focus (first | rfl | (simp; done) | omega)) | with_reducible refine Cs.alloc ?_ _ | with_reducible refine Cs.drew ?_ | with_reducible refine Cs.drewN ?_ _ | (with_reducible refine Cs.other ?_ ?_ _; focus (first | omega | (simp; omega))) | with_reducible apply Cs.put)) <;> first | rfl | (simp; done))); have BQz0 := (BQ.out.at 0 rfl).1; have BQy0 := (BQ.out.at 0 rfl).2; have BQz1 := (BQ.out.at 1 rfl).1; have BQy1 := (BQ.out.at 1 rfl).2; have BQz2 := (BQ.out.at 2 rfl).1; have BQy2 := (BQ.out.at 2 rfl).2; have BQz3 := (BQ.out.at 3 rfl).1; have BQy3 := (BQ.out.at 3 rfl).2; have BQz4 := (BQ.out.at 4 rfl).1; have BQy4 := (BQ.out.at 4 rfl).2; have BQz5 := (BQ.out.at 5 rfl).1; have BQy5 := (BQ.out.at 5 rfl).2; have BQz6 := (BQ.out.at 6 rfl).1; have BQy6 := (BQ.out.at 6 rfl).2; have lBQ := BQ.out.1) | skip); clear hb))
      all_goals go_wp2_with fail
      all_goals go_meet
      all_goals first
        | (with_reducible refine ⟨w4.heap.size, (w4.heap.size + 1), rfl, rfl, rfl, ?_, ?_, ?_, ?_, ?_, ?_⟩
           · omega
           · omega
           · omega
           · exact (Cs.new rfl).alloc _
           · exact Cs.new (World.size_alloc _ _).symm
           · exact blw_alloc (blw_alloc HBX.out _) _)
        | (with_reducible refine ⟨(w4.heap.size + 1), w4.heap.size, rfl, rfl, rfl, ?_, ?_, ?_, ?_, ?_, ?_⟩
           · omega
           · omega
           · omega
           · exact Cs.new (World.size_alloc _ _).symm
           · exact (Cs.new rfl).alloc _
           · exact blw_alloc (blw_alloc HBX.out _) _)
        | (with_reducible refine ⟨w3.heap.size, w4.heap.size, rfl, rfl, rfl, ?_, ?_, ?_, ?_, ?_, ?_⟩
           · omega
           · omega
           · omega
           · with_reducible exact (cs_put7 AP.out).alloc _
           · exact Cs.new (by simp)
           · with_reducible exact blw_alloc (below_set7 HBX.out _ (Nat.le_refl _) _ _ _ _ _ _ _) _)
        | (with_reducible refine ⟨w3.heap.size, (w3.heap.size + 1), rfl, rfl, rfl, ?_, ?_, ?_, ?_, ?_, ?_⟩
           · omega
           · omega
           · omega
           · with_reducible exact cs_set7 (cs_put7 AP.out) (by omega) _ _ _ _ _ _ _
           · with_reducible exact cs_put7 (cs_set7 BQ.out (by omega) _ _ _ _ _ _ _)
           · with_reducible exact below_set7 (below_set7 HBX.out _ (Nat.le_refl _) _ _ _ _ _ _ _) _ (by omega) _ _ _ _ _ _ _)
        | (with_reducible refine ⟨w4.heap.size, w3.heap.size, rfl, rfl, rfl, ?_, ?_, ?_, ?_, ?_, ?_⟩
           · omega
           · omega
           · omega
           · exact Cs.new (by simp)
           · with_reducible exact (cs_put7 BP.out).alloc _
           · with_reducible exact blw_alloc (below_set7 HBX.out _ (Nat.le_refl _) _ _ _ _ _ _ _) _)
        | (with_reducible refine ⟨(w3.heap.size + 1), w3.heap.size, rfl, rfl, rfl, ?_, ?_, ?_, ?_, ?_, ?_⟩
           · omega
           · omega
           · omega
           · with_reducible exact cs_set7 (cs_put7 AQ.out) (by omega) _ _ _ _ _ _ _
           · with_reducible exact cs_put7 (cs_set7 BP.out (by omega) _ _ _ _ _ _ _)
           · with_reducible exact below_set7 (below_set7 HBX.out _ (by omega) _ _ _ _ _ _ _) _ (by omega) _ _ _ _ _ _ _)
    case rest =>
      obtain ⟨p, q, rfl, rfl, rfl, hp, hq, hpq, hcp, hcq, hb⟩ := hcut
      have HB4 := Lib.hid (below_then' HB3.out hb)
      have CA4 := Lib.hid (CA3.out.after hb)
      have HD4 := Lib.hid (HD3.out.below hb)
      obtain ⟨h1, h2, h3, h4, h5⟩ := HBR.out
      clear HBR
      subst h1 h2 h3 h4 h5
      clear hb hcp hcq hp hq hpq CA3 CT3 HD3 HB3
      have la4 := CA4.out.1
      have x0 := (CA4.out.at 0 rfl).1
      have x1 := (CA4.out.at 1 rfl).1
      have x2 := (CA4.out.at 2 rfl).1
      have x3 := (CA4.out.at 3 rfl).1
      have x4 := (CA4.out.at 4 rfl).1
      have x5 := (CA4.out.at 5 rfl).1
      have x6 := (CA4.out.at 6 rfl).1
      go_wp2_with (fail)
      go_at_call 32
      refine (HRO.out D ds.length dq _ rfl (HD4.out.below (by repeat (first | with_reducible exact Below.refl _ _ | with_reducible refine Base.blw_alloc ?_ _ | with_reducible refine Below.drew ?_))) HN.out).mono ?_
      rintro e w5 ⟨E, eq, rfl, ho, hb⟩
      have HB5 := Lib.hid (below_then' HB4.out hb)
      have CA5 := Lib.hid (CA4.out.after hb)
      clear ho hb x0 x1 x2 x3 x4 x5 x6 CA4 HB4 HD4
      have la5 := CA5.out.1
      have x0 := (CA5.out.at 0 rfl).1
      have x1 := (CA5.out.at 1 rfl).1
      have x2 := (CA5.out.at 2 rfl).1
      have x3 := (CA5.out.at 3 rfl).1
      have x4 := (CA5.out.at 4 rfl).1
      have x5 := (CA5.out.at 5 rfl).1
      have x6 := (CA5.out.at 6 rfl).1
      have nf0 : (g0 != g0) = false := by simp
      have nf1 : (g1 != g1) = false := by simp
      have nf2 : (g2 != g2) = false := by simp
      have nf3 : (g3 != g3) = false := by simp
      have nf4 : (g5 != g5) = false := by simp
      go_wp2_with (fail)
      go_ret
      exact ⟨rfl, blw_alloc HB5.out _⟩
  · have HSO := Lib.hid (fun W (h1 : RdE 2 Debt.Db.enc W D ds) (h2 : RdE 2 Stp.enc W T ts) => (HS.out D dq T tq W h1 HN.out h2).mono (R' := fun e w' => ∃ F fq, e = .returned (.tuple #[.agg #[.int .i64 c.me, .int .i64 c.rev, .int .i64 c.nx, .int .i64 c.mo, .int .i64 c.bo, .int .i64 c.fr, .slice F fs.length fq], .agg #[.int .i64 b0, .int .i64 b1, .int .i64 b2, .int .i64 b3, .int .i64 b4, .int .i64 b5, .int .i64 b6], .int .i64 0]) ∧ Debt.OwDb W.heap.size w' F fq fs ∧ Below W.heap.size W w') fun e w' ⟨h, hb⟩ => by
      rcases h with ⟨h, _⟩ | ⟨_, F, fq, h1, h2⟩
      · exact absurd h hu0
      · exact ⟨F, fq, h1, h2, hb⟩)
    have HU0 := Lib.hid hu0
    clear hu0
    go_cut [12, 13, 14] (fun v1 v2 v3 wx => ∃ p q F fq , v1 = .pointer (some ⟨p, 0, none⟩) ∧ v2 = .pointer (some ⟨q, 0, none⟩) ∧ v3 = .int .i64 0 ∧ w3.heap.size ≤ p ∧ w3.heap.size ≤ q ∧ p ≠ q ∧ Cs wx p [.int .i64 c.me, .int .i64 c.rev, .int .i64 c.nx, .int .i64 c.mo, .int .i64 c.bo, .int .i64 c.fr, .slice F fs.length fq] ∧ Cs wx q [.int .i64 b0, .int .i64 b1, .int .i64 b2, .int .i64 b3, .int .i64 b4, .int .i64 b5, .int .i64 b6] ∧ Debt.OwDb w3.heap.size wx F fq fs ∧ Below w3.heap.size w3 wx)
    case first =>
      have na1 : pa ≠ w3.heap.size := by omega
      have na2 : pa ≠ w3.heap.size + 1 := by omega
      have nt1 : pt ≠ w3.heap.size := by omega
      have nt2 : pt ≠ w3.heap.size + 1 := by omega
      have na3 : w3.heap.size ≠ pa := by omega
      have na4 : w3.heap.size + 1 ≠ pa := by omega
      have nt3 : w3.heap.size ≠ pt := by omega
      have nt4 : w3.heap.size + 1 ≠ pt := by omega
      have ns1 : w3.heap.size ≠ w3.heap.size + 1 := by omega
      have ns2 : w3.heap.size + 1 ≠ w3.heap.size := by omega
      go_region_held3 (fun w' => w'.cell? ⟨pa, 0, none⟩ = some (.int .i64 a0) ∧ w'.cell? ⟨pa, 1, none⟩ = some (.int .i64 a1) ∧ w'.cell? ⟨pa, 2, none⟩ = some (.int .i64 a2) ∧ w'.cell? ⟨pa, 3, none⟩ = some (.int .i64 a3) ∧ w'.cell? ⟨pa, 4, none⟩ = some (.int .i64 a4) ∧ w'.cell? ⟨pa, 5, none⟩ = some (.int .i64 a5) ∧ w'.cell? ⟨pa, 6, none⟩ = some (.slice D ds.length dq) ∧ w'.cell? ⟨pt, 0, none⟩ = some (.slice T ts.length tq) ∧ w'.cell? ⟨pt, 1, none⟩ = some (.int .i64 fix) ∧ w'.cell? ⟨pt, 2, none⟩ = some (.int .i64 bp) ∧ w'.cell? ⟨pt, 3, none⟩ = some (.int .i64 dbp) ∧ w'.cell? ⟨pt, 4, none⟩ = some (.int .i64 al)) (go_keep) (first | (go_at_call 19; refine (picked_any _ _ _ (by omega) (by omega) (by omega)).mono ?_; rintro e w' ⟨rfl, rfl⟩) | (go_at_call 29; refine (HSO.out _ (HD3.out.below (by repeat (first | with_reducible exact Below.refl _ _ | with_reducible refine Base.blw_alloc ?_ _ | with_reducible refine Below.drew ?_))) (HT3.out.below (by repeat (first | with_reducible exact Below.refl _ _ | with_reducible refine Base.blw_alloc ?_ _ | with_reducible refine Below.drew ?_)))).mono ?_; rintro e w4 ⟨F, fq, rfl, ho, hb⟩; have HBX : Hid (Below w3.heap.size w3 w4) := Lib.hid (below_then' (by repeat (first | with_reducible exact Below.refl _ _ | with_reducible refine Base.blw_alloc ?_ _ | with_reducible refine Below.drew ?_)) hb); have hsx := HBX.out.size; have CAX := Lib.hid (CA3.out.after HBX.out); have CTX := Lib.hid (CT3.out.after HBX.out); have xq0 := (CAX.out.at 0 rfl).1; have xq1 := (CAX.out.at 1 rfl).1; have xq2 := (CAX.out.at 2 rfl).1; have xq3 := (CAX.out.at 3 rfl).1; have xq4 := (CAX.out.at 4 rfl).1; have xq5 := (CAX.out.at 5 rfl).1; have xq6 := (CAX.out.at 6 rfl).1; have yq0 := (CTX.out.at 0 rfl).1; have yq1 := (CTX.out.at 1 rfl).1; have yq2 := (CTX.out.at 2 rfl).1; have yq3 := (CTX.out.at 3 rfl).1; have yq4 := (CTX.out.at 4 rfl).1; have lax := CAX.out.1; have ltx := CTX.out.1; (first | (refine (fun (HO0 : Hid (Debt.OwDb (w3.heap.size + 0) w4 F fq fs)) => ?_) (Lib.hid (own_less ho ?_)); rotate_left; (focus (first | (simp; done) | (simp; omega) | omega))) | skip); (first | (refine (fun (HO1 : Hid (Debt.OwDb (w3.heap.size + 1) w4 F fq fs)) => ?_) (Lib.hid (own_less ho ?_)); rotate_left; (focus (first | (simp; done) | (simp; omega) | omega))) | skip); (first | (refine (fun (HO2 : Hid (Debt.OwDb (w3.heap.size + 2) w4 F fq fs)) => ?_) (Lib.hid (own_less ho ?_)); rotate_left; (focus (first | (simp; done) | (simp; omega) | omega))) | skip); (first | (refine (fun (AP : Hid (Cs w4 (w3.heap.size) [.int .i64 0, .int .i64 0, .int .i64 0, .int .i64 0, .int .i64 0, .int .i64 0, .slice none 0 0])) => ?_) (Lib.hid (Cs.after ?_ hb)); rotate_left; (focus ((repeat (first | (with_reducible refine Cs.new ?_; focus (first | rfl | (simp; done) | omega)) | with_reducible refine Cs.alloc ?_ _ | with_reducible refine Cs.drew ?_ | with_reducible refine Cs.drewN ?_ _ | (with_reducible refine Cs.other ?_ ?_ _; focus (first | omega | (simp; omega))) | with_reducible apply Cs.put)) <;> first | rfl | (simp; done))); have APz0 := (AP.out.at 0 rfl).1; have APy0 := (AP.out.at 0 rfl).2; have APz1 := (AP.out.at 1 rfl).1; have APy1 := (AP.out.at 1 rfl).2; have APz2 := (AP.out.at 2 rfl).1; have APy2 := (AP.out.at 2 rfl).2; have APz3 := (AP.out.at 3 rfl).1; have APy3 := (AP.out.at 3 rfl).2; have APz4 := (AP.out.at 4 rfl).1; have APy4 := (AP.out.at 4 rfl).2; have APz5 := (AP.out.at 5 rfl).1; have APy5 := (AP.out.at 5 rfl).2; have APz6 := (AP.out.at 6 rfl).1; have APy6 := (AP.out.at 6 rfl).2; have lAP := AP.out.1) | skip); (first | (refine (fun (AQ : Hid (Cs w4 (w3.heap.size + 1) [.int .i64 0, .int .i64 0, .int .i64 0, .int .i64 0, .int .i64 0, .int .i64 0, .slice none 0 0])) => ?_) (Lib.hid (Cs.after ?_ hb)); rotate_left; (focus ((repeat (first | (with_reducible refine Cs.new ?_; focus (first | rfl | (simp; done) | omega)) | with_reducible refine Cs.alloc ?_ _ | with_reducible refine Cs.drew ?_ | with_reducible refine Cs.drewN ?_ _ | (with_reducible refine Cs.other ?_ ?_ _; focus (first | omega | (simp; omega))) | with_reducible apply Cs.put)) <;> first | rfl | (simp; done))); have AQz0 := (AQ.out.at 0 rfl).1; have AQy0 := (AQ.out.at 0 rfl).2; have AQz1 := (AQ.out.at 1 rfl).1; have AQy1 := (AQ.out.at 1 rfl).2; have AQz2 := (AQ.out.at 2 rfl).1; have AQy2 := (AQ.out.at 2 rfl).2; have AQz3 := (AQ.out.at 3 rfl).1; have AQy3 := (AQ.out.at 3 rfl).2; have AQz4 := (AQ.out.at 4 rfl).1; have AQy4 := (AQ.out.at 4 rfl).2; have AQz5 := (AQ.out.at 5 rfl).1; have AQy5 := (AQ.out.at 5 rfl).2; have AQz6 := (AQ.out.at 6 rfl).1; have AQy6 := (AQ.out.at 6 rfl).2; have lAQ := AQ.out.1) | skip); (first | (refine (fun (BP : Hid (Cs w4 (w3.heap.size) [.int .i64 0, .int .i64 0, .int .i64 0, .int .i64 0, .int .i64 0, .int .i64 0, .int .i64 0])) => ?_) (Lib.hid (Cs.after ?_ hb)); rotate_left; (focus ((repeat (first | (with_reducible refine Cs.new ?_; focus (first | rfl | (simp; done) | omega)) | with_reducible refine Cs.alloc ?_ _ | with_reducible refine Cs.drew ?_ | with_reducible refine Cs.drewN ?_ _ | (with_reducible refine Cs.other ?_ ?_ _; focus (first | omega | (simp; omega))) | with_reducible apply Cs.put)) <;> first | rfl | (simp; done))); have BPz0 := (BP.out.at 0 rfl).1; have BPy0 := (BP.out.at 0 rfl).2; have BPz1 := (BP.out.at 1 rfl).1; have BPy1 := (BP.out.at 1 rfl).2; have BPz2 := (BP.out.at 2 rfl).1; have BPy2 := (BP.out.at 2 rfl).2; have BPz3 := (BP.out.at 3 rfl).1; have BPy3 := (BP.out.at 3 rfl).2; have BPz4 := (BP.out.at 4 rfl).1; have BPy4 := (BP.out.at 4 rfl).2; have BPz5 := (BP.out.at 5 rfl).1; have BPy5 := (BP.out.at 5 rfl).2; have BPz6 := (BP.out.at 6 rfl).1; have BPy6 := (BP.out.at 6 rfl).2; have lBP := BP.out.1) | skip); (first | (refine (fun (BQ : Hid (Cs w4 (w3.heap.size + 1) [.int .i64 0, .int .i64 0, .int .i64 0, .int .i64 0, .int .i64 0, .int .i64 0, .int .i64 0])) => ?_) (Lib.hid (Cs.after ?_ hb)); rotate_left; (focus ((repeat (first | (with_reducible refine Cs.new ?_; focus (first | rfl | (simp; done) | omega)) | with_reducible refine Cs.alloc ?_ _ | with_reducible refine Cs.drew ?_ | with_reducible refine Cs.drewN ?_ _ | (with_reducible refine Cs.other ?_ ?_ _; focus (first | omega | (simp; omega))) | with_reducible apply Cs.put)) <;> first | rfl | (simp; done))); have BQz0 := (BQ.out.at 0 rfl).1; have BQy0 := (BQ.out.at 0 rfl).2; have BQz1 := (BQ.out.at 1 rfl).1; have BQy1 := (BQ.out.at 1 rfl).2; have BQz2 := (BQ.out.at 2 rfl).1; have BQy2 := (BQ.out.at 2 rfl).2; have BQz3 := (BQ.out.at 3 rfl).1; have BQy3 := (BQ.out.at 3 rfl).2; have BQz4 := (BQ.out.at 4 rfl).1; have BQy4 := (BQ.out.at 4 rfl).2; have BQz5 := (BQ.out.at 5 rfl).1; have BQy5 := (BQ.out.at 5 rfl).2; have BQz6 := (BQ.out.at 6 rfl).1; have BQy6 := (BQ.out.at 6 rfl).2; have lBQ := BQ.out.1) | skip); clear hb))
      all_goals go_wp2_with fail
      all_goals go_meet
      all_goals first
        | (with_reducible refine ⟨w4.heap.size, (w4.heap.size + 1), F, fq, rfl, rfl, rfl, ?_, ?_, ?_, ?_, ?_, ?_, ?_⟩
           · omega
           · omega
           · omega
           · exact (Cs.new rfl).alloc _
           · exact Cs.new (World.size_alloc _ _).symm
           · exact odb_alloc (odb_alloc HO0.out _) _
           · exact blw_alloc (blw_alloc HBX.out _) _)
        | (with_reducible refine ⟨(w4.heap.size + 1), w4.heap.size, F, fq, rfl, rfl, rfl, ?_, ?_, ?_, ?_, ?_, ?_, ?_⟩
           · omega
           · omega
           · omega
           · exact Cs.new (World.size_alloc _ _).symm
           · exact (Cs.new rfl).alloc _
           · exact odb_alloc (odb_alloc HO0.out _) _
           · exact blw_alloc (blw_alloc HBX.out _) _)
        | (with_reducible refine ⟨w3.heap.size, w4.heap.size, F, fq, rfl, rfl, rfl, ?_, ?_, ?_, ?_, ?_, ?_, ?_⟩
           · omega
           · omega
           · omega
           · with_reducible exact (cs_put7 AP.out).alloc _
           · exact Cs.new (by simp)
           · with_reducible exact odb_alloc (odb_set7 HO1.out (by omega) (by omega) _ _ _ _ _ _ _) _
           · with_reducible exact blw_alloc (below_set7 HBX.out _ (Nat.le_refl _) _ _ _ _ _ _ _) _)
        | (with_reducible refine ⟨w3.heap.size, (w3.heap.size + 1), F, fq, rfl, rfl, rfl, ?_, ?_, ?_, ?_, ?_, ?_, ?_⟩
           · omega
           · omega
           · omega
           · with_reducible exact cs_set7 (cs_put7 AP.out) (by omega) _ _ _ _ _ _ _
           · with_reducible exact cs_put7 (cs_set7 BQ.out (by omega) _ _ _ _ _ _ _)
           · with_reducible exact odb_set7 (odb_set7 HO2.out (by omega) (Nat.le_refl _) _ _ _ _ _ _ _) (by omega) (by omega) _ _ _ _ _ _ _
           · with_reducible exact below_set7 (below_set7 HBX.out _ (Nat.le_refl _) _ _ _ _ _ _ _) _ (by omega) _ _ _ _ _ _ _)
        | (with_reducible refine ⟨w4.heap.size, w3.heap.size, F, fq, rfl, rfl, rfl, ?_, ?_, ?_, ?_, ?_, ?_, ?_⟩
           · omega
           · omega
           · omega
           · exact Cs.new (by simp)
           · with_reducible exact (cs_put7 BP.out).alloc _
           · with_reducible exact odb_alloc (odb_set7 HO1.out (by omega) (by omega) _ _ _ _ _ _ _) _
           · with_reducible exact blw_alloc (below_set7 HBX.out _ (Nat.le_refl _) _ _ _ _ _ _ _) _)
        | (with_reducible refine ⟨(w3.heap.size + 1), w3.heap.size, F, fq, rfl, rfl, rfl, ?_, ?_, ?_, ?_, ?_, ?_, ?_⟩
           · omega
           · omega
           · omega
           · with_reducible exact cs_set7 (cs_put7 AQ.out) (by omega) _ _ _ _ _ _ _
           · with_reducible exact cs_put7 (cs_set7 BP.out (by omega) _ _ _ _ _ _ _)
           · with_reducible exact odb_set7 (odb_set7 HO2.out (by omega) (Nat.le_refl _) _ _ _ _ _ _ _) (by omega) (by omega) _ _ _ _ _ _ _
           · with_reducible exact below_set7 (below_set7 HBX.out _ (by omega) _ _ _ _ _ _ _) _ (by omega) _ _ _ _ _ _ _)
    case rest =>
      obtain ⟨p, q, F, fq, rfl, rfl, rfl, hp, hq, hpq, hcp, hcq, hof, hb⟩ := hcut
      have HB4 := Lib.hid (below_then' HB3.out hb)
      have CA4 := Lib.hid (CA3.out.after hb)
      have HD4 := Lib.hid (HD3.out.below hb)
      obtain ⟨h1, h2, h3, h4, h5⟩ := HBR.out
      clear HBR
      subst h1 h2 h3 h4 h5
      obtain ⟨c0, c1, c2, c3, c4, c5⟩ := c
      obtain ⟨h1, h2, h3, h4, h5, h6, h7, h8⟩ := HBT.out
      clear HBT
      simp only at h1 h2 h3 h4 h5 h6 h7 h8 hcp
      replace h1 := h1.symm
      replace h6 := h6.symm
      replace h7 := h7.symm
      replace h8 := h8.symm
      subst h1 h2 h3 h4 h5 h6 h7 h8
      have CP4 := Lib.hid hcp
      have CQ4 := Lib.hid hcq
      have HF4 := Lib.hid hof.read
      clear hb hcp hcq hof hp hq hpq CA3 CT3 HD3 HB3
      have la4 := CA4.out.1
      have x0 := (CA4.out.at 0 rfl).1
      have x1 := (CA4.out.at 1 rfl).1
      have x2 := (CA4.out.at 2 rfl).1
      have x3 := (CA4.out.at 3 rfl).1
      have x4 := (CA4.out.at 4 rfl).1
      have x5 := (CA4.out.at 5 rfl).1
      have x6 := (CA4.out.at 6 rfl).1
      go_wp2_with (fail)
      go_at_call 32
      refine (HRO.out D ds.length dq _ rfl (HD4.out.below (by repeat (first | with_reducible exact Below.refl _ _ | with_reducible refine Base.blw_alloc ?_ _ | with_reducible refine Below.drew ?_))) HN.out).mono ?_
      rintro e w5 ⟨E, eq, rfl, ho, hb⟩
      have HB5 := Lib.hid (below_then' HB4.out hb)
      have CA5 := Lib.hid (CA4.out.after hb)
      have HE5 := Lib.hid ho.read
      have HF5 := Lib.hid (HF4.out.below hb)
      have CP5 := Lib.hid (CP4.out.after hb)
      have CQ5 := Lib.hid (CQ4.out.after hb)
      clear ho hb x0 x1 x2 x3 x4 x5 x6 CA4 HB4 HD4 CP4 CQ4 HF4
      have la5 := CA5.out.1
      have lp5 := CP5.out.1
      have lq5 := CQ5.out.1
      have x0 := (CA5.out.at 0 rfl).1
      have x1 := (CA5.out.at 1 rfl).1
      have x2 := (CA5.out.at 2 rfl).1
      have x3 := (CA5.out.at 3 rfl).1
      have x4 := (CA5.out.at 4 rfl).1
      have x5 := (CA5.out.at 5 rfl).1
      have x6 := (CA5.out.at 6 rfl).1
      have nf0 : (g0 != g0) = false := by simp
      have nf1 : (g1 != g1) = false := by simp
      have nf2 : (g2 != g2) = false := by simp
      have nf3 : (g3 != g3) = false := by simp
      have nf4 : (g5 != g5) = false := by simp
      go_wp2_with (fail)
      go_at_call 30
      refine (HTE2.out E eq _ (HE5.out.below (by repeat (first | with_reducible exact Below.refl _ _ | with_reducible refine Base.blw_alloc ?_ _ | with_reducible refine Below.drew ?_)))).mono ?_
      rintro e w6 ⟨rfl, hb⟩
      have HB6 := Lib.hid (below_then' (blw_alloc HB5.out _) hb)
      have HF6 := Lib.hid ((HF5.out.below (blw_alloc (Below.refl _ _) _)).below hb)
      have CA6 := Lib.hid ((CA5.out.alloc _).after hb)
      have CP6 := Lib.hid ((CP5.out.alloc _).after hb)
      have CQ6 := Lib.hid ((CQ5.out.alloc _).after hb)
      have CR6 := Lib.hid ((show Cs _ w5.heap.size [.int .i64 g0, .int .i64 g1, .int .i64 g2, .int .i64 g3, .int .i64 g4, .int .i64 g5, .slice E es.length eq] from (by (repeat (first | (with_reducible refine Cs.new ?_; focus (first | rfl | (simp; done) | omega)) | with_reducible refine Cs.alloc ?_ _ | with_reducible refine Cs.drew ?_ | with_reducible refine Cs.drewN ?_ _ | (with_reducible refine Cs.other ?_ ?_ _; focus (first | omega | (simp; omega))) | with_reducible apply Cs.put)) <;> first | rfl | (simp; done))).after hb)
      clear hb x0 x1 x2 x3 x4 x5 x6 CA5 HB5 HE5 HF5 CP5 CQ5 nf0 nf1 nf2 nf3 nf4
      have p6 := (CP6.out.at 6 rfl).1
      go_wp2_with (fail)
      go_at_call 30
      refine (HTF.out F fq _ HF6.out).mono ?_
      rintro e w7 ⟨rfl, hb⟩
      have HB7 := Lib.hid (below_then' HB6.out hb)
      have CA7 := Lib.hid (CA6.out.after hb)
      have CP7 := Lib.hid (CP6.out.after hb)
      have CQ7 := Lib.hid (CQ6.out.after hb)
      have CR7 := Lib.hid (CR6.out.after hb)
      clear hb p6 CA6 CP6 CQ6 CR6 HB6 HF6
      have x0 := (CA7.out.at 0 rfl).1
      have x1 := (CA7.out.at 1 rfl).1
      have x2 := (CA7.out.at 2 rfl).1
      have x3 := (CA7.out.at 3 rfl).1
      have x4 := (CA7.out.at 4 rfl).1
      have x5 := (CA7.out.at 5 rfl).1
      have x6 := (CA7.out.at 6 rfl).1
      have p0 := (CP7.out.at 0 rfl).1
      have p1 := (CP7.out.at 1 rfl).1
      have p2 := (CP7.out.at 2 rfl).1
      have p3 := (CP7.out.at 3 rfl).1
      have p4 := (CP7.out.at 4 rfl).1
      have p5 := (CP7.out.at 5 rfl).1
      have p6 := (CP7.out.at 6 rfl).1
      have q0 := (CQ7.out.at 0 rfl).1
      have q1 := (CQ7.out.at 1 rfl).1
      have q2 := (CQ7.out.at 2 rfl).1
      have q3 := (CQ7.out.at 3 rfl).1
      have q4 := (CQ7.out.at 4 rfl).1
      have q5 := (CQ7.out.at 5 rfl).1
      have q6 := (CQ7.out.at 6 rfl).1
      have r0 := (CR7.out.at 0 rfl).1
      have r1 := (CR7.out.at 1 rfl).1
      have r2 := (CR7.out.at 2 rfl).1
      have r3 := (CR7.out.at 3 rfl).1
      have r4 := (CR7.out.at 4 rfl).1
      have r5 := (CR7.out.at 5 rfl).1
      have r6 := (CR7.out.at 6 rfl).1
      have nf0 : (se - sf != b2) = false := by have := HSM.out; simp; omega
      have ef0 : (g2 == g2) = true := by simp
      have ef1 : ((g2 + 1) == (g2 + 1)) = true := by simp
      have ef2 : ((g4 + b6) == (g4 + b6)) = true := by simp
      have ef3 : (g0 == g0) = true := by simp
      have ef4 : (g1 == g1) = true := by simp
      have ef5 : (g5 == g5) = true := by simp
      go_wp2_with (fail)
      go_ret
      exact ⟨rfl, HB7.out⟩
end Go.Proofs.Ytjfjmlcibhdilaa.SellMoves
