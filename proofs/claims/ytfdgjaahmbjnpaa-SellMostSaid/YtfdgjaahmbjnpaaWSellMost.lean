/- The walk of SellMost. -/
import Derived.Test.YtfdgjaahmbjnpaaOpenGn
import Derived.Test.YtfdgjaahmbjnpaaAgr
import Derived.Test.YtfdgjaahmbjnpaaSell2
import Derived.Deep.RegionHeld3
namespace Go.Proofs.Ytfdgjaahmbjnpaa.SellMost
open Go.RowKit Go.Proofs.Ytfdgjaahmbjnpaa.Base Go.Proofs.Ytfdgjaahmbjnpaa.Tar Go.Proofs.Ytfdgjaahmbjnpaa.Acc
set_option linter.unusedVariables false
set_option linter.unusedSimpArgs false
set_option maxRecDepth 20000
theorem roll_call (a : Ac) (m : Int) (ds : List Debt.Db) (A : Option Addr) (n q : Nat) (w : World) (hl : n = ds.length) (hr : RdE 2 Debt.Db.enc w A ds) (hn : ds.length ≤ 8) (hk : ∀ x ∈ ds, x.ok) (hA : A = none → ds = [] ∧ q = 0) (ha : a.ok) (m0 : a.mo ≤ m) (m1 : m ≤ 2399) (b : Ac) (hb : b = rollA a m) (es : List Debt.Db) (he : es = Debt.ageL (m - a.mo).toNat ds) :
    Calls Try.prog 19 #[.agg #[.int .i64 a.me, .int .i64 a.rev, .int .i64 a.nx, .int .i64 a.mo, .int .i64 a.bo, .int .i64 a.fr, .slice A n q], .int .i64 m] w fun e w' => ∃ D dq, e = .returned (.tuple #[.agg #[.int .i64 b.me, .int .i64 b.rev, .int .i64 b.nx, .int .i64 b.mo, .int .i64 b.bo, .int .i64 b.fr, .slice D es.length dq], .int .i64 0]) ∧ Debt.OwDb w.heap.size w' D dq es ∧ Below w.heap.size w w' := by
  subst hb he hl
  exact Roll_any a ds A q m w hr hn hk hA ha m0 m1
set_option maxHeartbeats 8000000 in
theorem walk (x : Gn) (xs : List Value) (y : Dl) (ys : List Value) (tn la : Int) (w : World) (hx : ∃ L d, xs = gnv x L x.ds.length d ∧ RdE 2 Debt.Ow.enc w L x.ds ∧ x.ok) (hy : ∃ L d, ys = dlv y L y.tf.length d ∧ RdE 2 Debt.Ow.enc w L y.tf ∧ y.ok) (wtn : (Lit.int .i64 tn).wf = true) (wla : (Lit.int .i64 la).wf = true) :
    Calls Try.prog 4 #[.agg xs.toArray, .agg ys.toArray, .int .i64 tn, .int .i64 la] w fun e w' => e = .returned (.bool true) ∧ Below w.heap.size w w' := by
  obtain ⟨L, d, rfl, hl, hx⟩ := hx
  obtain ⟨M, d2, rfl, hm, hy⟩ := hy
  obtain ⟨tn0, tn1⟩ := i64_bound wtn
  obtain ⟨la0, la1⟩ := i64_bound wla
  have HG := Lib.hid (fun W hW => gone_any x L d W hW hx)
  have HA := Lib.hid (fun W hW => agreed_any y M d2 W hW hy)
  have HL := Lib.hid hl
  have HM := Lib.hid hm
  have hao := gone_ok x
  have hnx : 1 ≤ (goneA x).nx ∧ (goneA x).nx ≤ 1048574 := by have := pk_bound x.nx 1048574 (by omega); unfold goneA; simp only; omega
  have hmo : 0 ≤ (goneA x).mo ∧ (goneA x).mo ≤ 2398 := by have := pk_bound x.mo 2399 (by omega); unfold goneA; simp only; omega
  have hk := Debt.owingL_ok x.ds 1000000000 (by omega) (by omega)
  have hn := Debt.owingL_len x.ds 1000000000
  have hxo := agreed_ok y
  have hTG := stepped_TG y.tf
  obtain ⟨hs1, hs8⟩ := stepped_len y.tf
  clear hl hm hx hy wtn wla
  generalize goneA x = a at *
  generalize Debt.owingL x.ds 1000000000 = ds at *
  generalize agreedX y = tm at *
  generalize steppedL y.tf = ts at *
  unfold gnv dlv
  generalize x.ds.length = ol at *
  generalize y.tf.length = tl at *
  have hp1 := pk_bound tn 100000000 (by omega)
  obtain ⟨te, hte⟩ : ∃ t, t = 1 + pk tn 100000000 := ⟨_, rfl⟩
  have ht0 : 1 ≤ te := by omega
  have ht1 : te ≤ 100000000 := by omega
  have HTE := Lib.hid hte.symm
  clear hte
  have hp2 := pk_bound la (2399 - a.mo + 1) (by omega)
  obtain ⟨m, hm⟩ : ∃ m, m = a.mo + pk la (2399 - a.mo + 1) := ⟨_, rfl⟩
  have hm0 : a.mo ≤ m := by omega
  have hm1 : m ≤ 2399 := by omega
  have HMO := Lib.hid hm.symm
  clear hm
  obtain ⟨b, hb⟩ : ∃ b, b = rollA a m := ⟨_, rfl⟩
  obtain ⟨es, he⟩ : ∃ e, e = Debt.ageL (m - a.mo).toNat ds := ⟨_, rfl⟩
  have hbo : b.ok := by rw [hb]; exact roll_ok a m hao hm0 hm1
  have hel : es.length = ds.length := by rw [he, age_len]
  have hek : ∀ x ∈ es, x.ok := by rw [he]; exact age_ok _ _ hk
  obtain ⟨u, hu⟩ : ∃ u, u = (sellU b es ts tm te).1 := ⟨_, rfl⟩
  obtain ⟨pr, hpr⟩ : ∃ u, u = (sellU b es ts tm te).2 := ⟨_, rfl⟩
  obtain ⟨B, hB⟩ : ∃ B, B = sellB b es ts tm te := ⟨_, rfl⟩
  obtain ⟨c, hc⟩ : ∃ c, c = sellA b es ts tm te := ⟨_, rfl⟩
  obtain ⟨fs, hf⟩ : ∃ f, f = (sellD es tm te).1 := ⟨_, rfl⟩
  obtain ⟨pd, hpd⟩ : ∃ f, f = (sellD es tm te).2 := ⟨_, rfl⟩
  obtain ⟨fe, hfe⟩ : ∃ f, f = sellF tm te := ⟨_, rfl⟩
  obtain ⟨re, hre⟩ : ∃ f, f = sellR es tm te := ⟨_, rfl⟩
  have HS := Lib.hid (fun A q T tq W hr hA ht => Sell_any a ds A q ts T tq tm te m W hr hn hk hA hao ht hTG hs1 hs8 hxo hm0 hm1 (by omega) ht0 ht1 b hb es he u hu B hB c hc fs hf)
  have hsh0 : 0 ≤ te * tm.dbp / 10000 := Int.ediv_nonneg (Int.mul_nonneg (by omega) hxo.2.2.1.1) (by omega)
  have hbp0 : 0 ≤ te * tm.bp := Int.mul_nonneg (by omega) hxo.2.1.1
  have hbp1 : te * tm.bp ≤ 100000000 * 10000 := Int.mul_le_mul ht1 hxo.2.1.2 hxo.2.1.1 (by omega)
  have hdb1 : te * tm.dbp ≤ 100000000 * 10000 := Int.mul_le_mul ht1 hxo.2.2.1.2 hxo.2.2.1.1 (by omega)
  have hinv := Debt.recL_inv (te * tm.dbp / 10000) hsh0 es hek
  obtain ⟨⟨p0, p1⟩, hfk, hfl⟩ := hinv
  have hfe0 : 0 ≤ fe ∧ fe ≤ 100100000 := by have := hxo.1; rw [hfe]; unfold sellF; omega
  have hrd : re = te - pd - fe := by rw [hre, hpd, hfe]; rfl
  have hpd0 : 0 ≤ pd ∧ pd ≤ 100000000 := by rw [hpd]; exact ⟨p0, by show (Debt.recL _ es).2 ≤ _; omega⟩
  have hB0 := hbo.2.2.2.2.1
  have hU1 : Hid (0 ≤ u ∧ u ≤ 2097151 ∧ b.bo + u ≤ 10000000 ∧ (0 ≤ re → pr = cum 0 ts (b.bo + u) - cum 0 ts b.bo ∧ pr ≤ re ∧ (u = 2097151 ∨ b.bo + u = 10000000 ∨ re < cum 0 ts (b.bo + u + 1) - cum 0 ts b.bo)) ∧ (re < 0 → u = 0)) := Lib.hid (by
    rw [hu, hpr]
    unfold sellU
    rw [← hre]
    by_cases hr0 : 0 ≤ re
    · rw [if_pos hr0]
      obtain ⟨q1, q2, q3, q4, q5, q6, q7⟩ := most_law re ts 0 b.bo 0 0 hTG hB0.1 hB0.2 (by omega) hr0 (by omega) (by omega) _ rfl
      simp only [Int.sub_zero] at q3 q6 q7
      exact ⟨q1, q2, q3, fun _ => ⟨by omega, q5, by rw [Int.zero_add] at q7; exact q7⟩, fun h => by omega⟩
    · rw [if_neg hr0]
      exact ⟨Int.le_refl _, by show (0 : Int) ≤ 2097151; omega, by show b.bo + 0 ≤ 10000000; omega, fun h => absurd h hr0, fun _ => rfl⟩)
  have HPRI := Lib.hid (fun A q W hr => price_any ts A q b.bo u W hr hTG hs1 hs8 hB0.1 hU1.out.1 hU1.out.2.1 hU1.out.2.2.1)
  have HPRJ := Lib.hid (fun A q W hr (h1 : u + 1 ≤ 2097151) (h2 : b.bo + (u + 1) ≤ 10000000) => price_any ts A q b.bo (u + 1) W hr hTG hs1 hs8 hB0.1 (by have := hU1.out.1; omega) h1 h2)
  have F1 : Hid (u ≠ 0 → 0 ≤ re ∧ 0 ≤ pr ∧ pr ≤ re ∧ costL (billL ts b.bo u) = pr ∧ (u = 2097151 ∨ b.bo + u = 10000000 ∨ re < costL (billL ts b.bo (u + 1)))) := Lib.hid (fun h1 => by
    obtain ⟨q1, q2, q3, q4, q5⟩ := hU1.out
    have hr0 : 0 ≤ re := Decidable.byContradiction fun h => h1 (q5 (by omega))
    obtain ⟨q6, q7, q8⟩ := q4 hr0
    have hm := cum_mono ts 0 b.bo hTG hB0.1 u.toNat (by omega)
    rw [show ((u.toNat : Nat) : Int) = u by omega] at hm
    rw [bill_cost ts 0 b.bo u hTG hB0.1 q1, bill_cost ts 0 b.bo (u + 1) hTG hB0.1 (by omega)]
    rw [Int.add_assoc b.bo u 1] at q8
    exact ⟨hr0, by omega, q7, q6.symm, q8⟩)
  have hbt : B.pr = pr ∧ B.ch = re - pr ∧ B.un = u ∧ c.mo = b.mo ∧ c.bo = b.bo + u := by rw [hB, hpr, hre, hu, hc]; exact ⟨rfl, rfl, rfl, rfl, rfl⟩
  have hbr : b.mo = m ∧ (m = a.mo → b.bo = a.bo) ∧ (m ≠ a.mo → b.bo = 0) := by
    rw [hb]
    refine ⟨rfl, fun h => ?_, fun h => ?_⟩
    · show (if m = a.mo then a.bo else 0) = a.bo
      rw [if_pos h]
    · show (if m = a.mo then a.bo else 0) = 0
      rw [if_neg h]
  have hre1 : re ≤ 100000000 := by omega
  have HBT := Lib.hid hbt
  have HBR := Lib.hid hbr
  have hub : 0 ≤ u ∧ u ≤ 2097151 ∧ b.bo + u ≤ 10000000 := ⟨hU1.out.1, hU1.out.2.1, hU1.out.2.2.1⟩
  clear hel hb he hbo hek hu hpr hB hc hf hpd hfe hre hrd hsh0 hbp0 hbp1 hdb1 p0 p1 hfk hfl hao hk hxo hTG hs1 hs8 hU1 hbt hbr
  generalize costL (billL ts b.bo u) = one at *
  generalize costL (billL ts b.bo (u + 1)) = two at *
  obtain ⟨g0, g1, g2, g3, g4, g5⟩ := b
  obtain ⟨b0, b1, b2, b3, b4, b5, b6⟩ := B
  unfold Bl.vals at HS
  simp only at HBT HBR HPRI HPRJ F1 hub hB0
  obtain ⟨a0, a1, a2, a3, a4, a5⟩ := a
  obtain ⟨fix, bp, dbp, al⟩ := tm
  simp only at *
  go_enter Try.func4, Try.ntmps4
  go_wp2_with (fail)
  go_at_call 15
  refine (HG.out _ (HL.out.below (by repeat (first | with_reducible exact Below.refl _ _ | with_reducible refine Base.blw_alloc ?_ _ | with_reducible refine Below.drew ?_)))).mono ?_
  rintro e w1 ⟨D, dq, rfl, ho, hb⟩
  have HB1 : Hid (Below w.heap.size w w1) := Lib.hid (below_then' (by repeat (first | with_reducible exact Below.refl _ _ | with_reducible refine Base.blw_alloc ?_ _ | with_reducible refine Below.drew ?_)) hb)
  have CD1 := Lib.hid ((show Cs _ (w.heap.size + 1) [.slice M tl d2, .int .i64 y.ff, .int .i64 y.fb, .int .i64 y.db, .int .i64 y.al] from (by (repeat (first | (with_reducible refine Cs.new ?_; focus (first | rfl | (simp; done) | omega)) | with_reducible refine Cs.alloc ?_ _ | with_reducible refine Cs.drew ?_ | with_reducible refine Cs.drewN ?_ _ | (with_reducible refine Cs.other ?_ ?_ _; focus (first | omega | (simp; omega))) | with_reducible apply Cs.put)) <;> first | rfl | (simp; done))).after hb)
  have HD1 := Lib.hid ho.read
  have HN := Lib.hid ho.nil
  have hz1 := HB1.out.size
  have ld := CD1.out.1
  clear ho hb
  have q0 := (CD1.out.at 0 rfl).1
  have q1 := (CD1.out.at 1 rfl).1
  have q2 := (CD1.out.at 2 rfl).1
  have q3 := (CD1.out.at 3 rfl).1
  have q4 := (CD1.out.at 4 rfl).1
  go_wp2_with (fail)
  go_at_call 16
  refine (HA.out _ (HM.out.below (blw_alloc HB1.out _))).mono ?_
  rintro e w2 ⟨T, tq, rfl, ht, hb⟩
  have HB2 := Lib.hid (below_then' (blw_alloc HB1.out _) hb)
  have CA2 := Lib.hid ((show Cs _ w1.heap.size [.int .i64 a0, .int .i64 a1, .int .i64 a2, .int .i64 a3, .int .i64 a4, .int .i64 a5, .slice D ds.length dq] from (by (repeat (first | (with_reducible refine Cs.new ?_; focus (first | rfl | (simp; done) | omega)) | with_reducible refine Cs.alloc ?_ _ | with_reducible refine Cs.drew ?_ | with_reducible refine Cs.drewN ?_ _ | (with_reducible refine Cs.other ?_ ?_ _; focus (first | omega | (simp; omega))) | with_reducible apply Cs.put)) <;> first | rfl | (simp; done))).after hb)
  have HD2 := Lib.hid ((HD1.out.below (blw_alloc (Below.refl _ _) _)).below hb)
  have HT2 := Lib.hid ht
  have la := CA2.out.1
  clear ht hb q0 q1 q2 q3 q4 CD1 ld
  generalize w1.heap.size = pa at *
  clear HB1 HD1
  have x0 := (CA2.out.at 0 rfl).1
  have x1 := (CA2.out.at 1 rfl).1
  have x2 := (CA2.out.at 2 rfl).1
  have x3 := (CA2.out.at 3 rfl).1
  have x4 := (CA2.out.at 4 rfl).1
  have x5 := (CA2.out.at 5 rfl).1
  have x6 := (CA2.out.at 6 rfl).1
  go_wp2_with (fail)
  go_quiet ((go_at_call 10; exact quiet_same (picked_any _ _ _ (by omega) (by omega) (by omega))))
  rw [HMO.out]
  have CA3 := Lib.hid ((CA2.out.alloc (.cells #[.slice T ts.length tq, .int .i64 fix, .int .i64 bp, .int .i64 dbp, .int .i64 al] 57)).drewN nq)
  have CT3 := Lib.hid ((Cs.new rfl : Cs (w2.alloc (.cells #[.slice T ts.length tq, .int .i64 fix, .int .i64 bp, .int .i64 dbp, .int .i64 al] 57)) w2.heap.size [.slice T ts.length tq, .int .i64 fix, .int .i64 bp, .int .i64 dbp, .int .i64 al]).drewN nq)
  have HB3 := Lib.hid (blw_step (blw_alloc HB2.out (.cells #[.slice T ts.length tq, .int .i64 fix, .int .i64 bp, .int .i64 dbp, .int .i64 al] 57)) nq)
  have HD3 := Lib.hid (HD2.out.below (blw_step (blw_alloc (Below.refl _ _) (.cells #[.slice T ts.length tq, .int .i64 fix, .int .i64 bp, .int .i64 dbp, .int .i64 al] 57)) nq))
  have HT3 := Lib.hid (HT2.out.below (blw_step (blw_alloc (Below.refl _ _) (.cells #[.slice T ts.length tq, .int .i64 fix, .int .i64 bp, .int .i64 dbp, .int .i64 al] 57)) nq))
  generalize (w2.alloc (.cells #[.slice T ts.length tq, .int .i64 fix, .int .i64 bp, .int .i64 dbp, .int .i64 al] 57)).drewN nq = w3 at *
  generalize w2.heap.size = pt at *
  clear x0 x1 x2 x3 x4 x5 x6 la CA2 HB2 HD2 HT2
  have la3 := CA3.out.1
  have lt3 := CT3.out.1
  have x0 := (CA3.out.at 0 rfl).1
  have x1 := (CA3.out.at 1 rfl).1
  have x2 := (CA3.out.at 2 rfl).1
  have x3 := (CA3.out.at 3 rfl).1
  have x4 := (CA3.out.at 4 rfl).1
  have x5 := (CA3.out.at 5 rfl).1
  have x6 := (CA3.out.at 6 rfl).1
  have y0 := (CT3.out.at 0 rfl).1
  have y1 := (CT3.out.at 1 rfl).1
  have y2 := (CT3.out.at 2 rfl).1
  have y3 := (CT3.out.at 3 rfl).1
  have y4 := (CT3.out.at 4 rfl).1
  have hwt : IntKind.i64.wrap (1 + pk tn 100000000) = te := by rw [Base.wrap64 _ (by omega) (by omega)]; exact HTE.out
  go_upto_region 4 with fail
  by_cases hu0 : u = 0
  · have HSF := Lib.hid (fun W (h1 : RdE 2 Debt.Db.enc W D ds) (h2 : RdE 2 Stp.enc W T ts) => (HS.out D dq T tq W h1 HN.out h2).mono (R' := fun e w' => e = .returned (.tuple #[.agg #[.int .i64 0, .int .i64 0, .int .i64 0, .int .i64 0, .int .i64 0, .int .i64 0, .slice none 0 0], .agg #[.int .i64 0, .int .i64 0, .int .i64 0, .int .i64 0, .int .i64 0, .int .i64 0, .int .i64 0], .int .i64 19]) ∧ Below W.heap.size W w') fun e w' ⟨h, hb⟩ => by
      rcases h with ⟨_, h⟩ | ⟨h, _⟩
      · exact ⟨h, hb⟩
      · exact absurd hu0 h)
    have HU0 := Lib.hid hu0
    clear hu0
    go_cut [12, 13, 14] (fun v1 v2 v3 wx => ∃ p q , v1 = .pointer (some ⟨p, 0, none⟩) ∧ v2 = .pointer (some ⟨q, 0, none⟩) ∧ v3 = .int .i64 19 ∧ w3.heap.size ≤ p ∧ w3.heap.size ≤ q ∧ p ≠ q ∧ Cs wx p [.int .i64 0, .int .i64 0, .int .i64 0, .int .i64 0, .int .i64 0, .int .i64 0, .slice none 0 0] ∧ Cs wx q [.int .i64 0, .int .i64 0, .int .i64 0, .int .i64 0, .int .i64 0, .int .i64 0, .int .i64 0] ∧ Below w3.heap.size w3 wx)
    case first =>
      have na1 : pa ≠ w3.heap.size := by omega
      have na2 : pa ≠ w3.heap.size + 1 := by omega
      have nt1 : pt ≠ w3.heap.size := by omega
      have nt2 : pt ≠ w3.heap.size + 1 := by omega
      have na3 : w3.heap.size ≠ pa := by omega
      have na4 : w3.heap.size + 1 ≠ pa := by omega
      have nt3 : w3.heap.size ≠ pt := by omega
      have nt4 : w3.heap.size + 1 ≠ pt := by omega
      have ns1 : w3.heap.size ≠ w3.heap.size + 1 := by omega
      have ns2 : w3.heap.size + 1 ≠ w3.heap.size := by omega
      go_region_held3 (fun w' => w'.cell? ⟨pa, 0, none⟩ = some (.int .i64 a0) ∧ w'.cell? ⟨pa, 1, none⟩ = some (.int .i64 a1) ∧ w'.cell? ⟨pa, 2, none⟩ = some (.int .i64 a2) ∧ w'.cell? ⟨pa, 3, none⟩ = some (.int .i64 a3) ∧ w'.cell? ⟨pa, 4, none⟩ = some (.int .i64 a4) ∧ w'.cell? ⟨pa, 5, none⟩ = some (.int .i64 a5) ∧ w'.cell? ⟨pa, 6, none⟩ = some (.slice D ds.length dq) ∧ w'.cell? ⟨pt, 0, none⟩ = some (.slice T ts.length tq) ∧ w'.cell? ⟨pt, 1, none⟩ = some (.int .i64 fix) ∧ w'.cell? ⟨pt, 2, none⟩ = some (.int .i64 bp) ∧ w'.cell? ⟨pt, 3, none⟩ = some (.int .i64 dbp) ∧ w'.cell? ⟨pt, 4, none⟩ = some (.int .i64 al)) (go_keep) (first | (go_at_call 10; refine (picked_any _ _ _ (by omega) (by omega) (by omega)).mono ?_; rintro e w' ⟨rfl, rfl⟩) | (go_at_call 17; refine (HSF.out _ (HD3.out.below (by repeat (first | with_reducible exact Below.refl _ _ | with_reducible refine Base.blw_alloc ?_ _ | with_reducible refine Below.drew ?_))) (HT3.out.below (by repeat (first | with_reducible exact Below.refl _ _ | with_reducible refine Base.blw_alloc ?_ _ | with_reducible refine Below.drew ?_)))).mono ?_; rintro e w4 ⟨rfl, hb⟩; have HBX : Hid (Below w3.heap.size w3 w4) := Lib.hid (below_then' (by repeat (first | with_reducible exact Below.refl _ _ | with_reducible refine Base.blw_alloc ?_ _ | with_reducible refine Below.drew ?_)) hb); have hsx := HBX.out.size; have CAX := Lib.hid (CA3.out.after HBX.out); have CTX := Lib.hid (CT3.out.after HBX.out); have xq0 := (CAX.out.at 0 rfl).1; have xq1 := (CAX.out.at 1 rfl).1; have xq2 := (CAX.out.at 2 rfl).1; have xq3 := (CAX.out.at 3 rfl).1; have xq4 := (CAX.out.at 4 rfl).1; have xq5 := (CAX.out.at 5 rfl).1; have xq6 := (CAX.out.at 6 rfl).1; have yq0 := (CTX.out.at 0 rfl).1; have yq1 := (CTX.out.at 1 rfl).1; have yq2 := (CTX.out.at 2 rfl).1; have yq3 := (CTX.out.at 3 rfl).1; have yq4 := (CTX.out.at 4 rfl).1; have lax := CAX.out.1; have ltx := CTX.out.1; (first | (refine (fun (AP : Hid (Cs w4 (w3.heap.size) [.int .i64 0, .int .i64 0, .int .i64 0, .int .i64 0, .int .i64 0, .int .i64 0, .slice none 0 0])) => ?_) (Lib.hid (Cs.after ?_ hb)); rotate_left; (focus ((repeat (first | (with_reducible refine Cs.new ?_; focus (first | rfl | (simp; done) | omega)) | with_reducible refine Cs.alloc ?_ _ | with_reducible refine Cs.drew ?_ | with_reducible refine Cs.drewN ?_ _ | (with_reducible refine Cs.other ?_ ?_ _; focus (first | omega | (simp; omega))) | with_reducible apply Cs.put)) <;> first | rfl | (simp; done))); have APz0 := (AP.out.at 0 rfl).1; have APy0 := (AP.out.at 0 rfl).2; have APz1 := (AP.out.at 1 rfl).1; have APy1 := (AP.out.at 1 rfl).2; have APz2 := (AP.out.at 2 rfl).1; have APy2 := (AP.out.at 2 rfl).2; have APz3 := (AP.out.at 3 rfl).1; have APy3 := (AP.out.at 3 rfl).2; have APz4 := (AP.out.at 4 rfl).1; have APy4 := (AP.out.at 4 rfl).2; have APz5 := (AP.out.at 5 rfl).1; have APy5 := (AP.out.at 5 rfl).2; have APz6 := (AP.out.at 6 rfl).1; have APy6 := (AP.out.at 6 rfl).2; have lAP := AP.out.1) | skip); (first | (refine (fun (AQ : Hid (Cs w4 (w3.heap.size + 1) [.int .i64 0, .int .i64 0, .int .i64 0, .int .i64 0, .int .i64 0, .int .i64 0, .slice none 0 0])) => ?_) (Lib.hid (Cs.after ?_ hb)); rotate_left; (focus ((repeat (first | (with_reducible refine Cs.new ?_; focus (first | rfl | (simp; done) | omega)) | with_reducible refine Cs.alloc ?_ _ | with_reducible refine Cs.drew ?_ | with_reducible refine Cs.drewN ?_ _ | (with_reducible refine Cs.other ?_ ?_ _; focus (first | omega | (simp; omega))) | with_reducible apply Cs.put)) <;> first | rfl | (simp; done))); have AQz0 := (AQ.out.at 0 rfl).1; have AQy0 := (AQ.out.at 0 rfl).2; have AQz1 := (AQ.out.at 1 rfl).1; have AQy1 := (AQ.out.at 1 rfl).2; have AQz2 := (AQ.out.at 2 rfl).1; have AQy2 := (AQ.out.at 2 rfl).2; have AQz3 := (AQ.out.at 3 rfl).1; have AQy3 := (AQ.out.at 3 rfl).2; have AQz4 := (AQ.out.at 4 rfl).1; have AQy4 := (AQ.out.at 4 rfl).2; have AQz5 := (AQ.out.at 5 rfl).1; have AQy5 := (AQ.out.at 5 rfl).2; have AQz6 := (AQ.out.at 6 rfl).1; have AQy6 := (AQ.out.at 6 rfl).2; have lAQ := AQ.out.1) | skip); (first | (refine (fun (BP : Hid (Cs w4 (w3.heap.size) [.int .i64 0, .int .i64 0, .int .i64 0, .int .i64 0, .int .i64 0, .int .i64 0, .int .i64 0])) => ?_) (Lib.hid (Cs.after ?_ hb)); rotate_left; (focus ((repeat (first | (with_reducible refine Cs.new ?_; focus (first | rfl | (simp; done) | omega)) | with_reducible refine Cs.alloc ?_ _ | with_reducible refine Cs.drew ?_ | with_reducible refine Cs.drewN ?_ _ | (with_reducible refine Cs.other ?_ ?_ _; focus (first | omega | (simp; omega))) | with_reducible apply Cs.put)) <;> first | rfl | (simp; done))); have BPz0 := (BP.out.at 0 rfl).1; have BPy0 := (BP.out.at 0 rfl).2; have BPz1 := (BP.out.at 1 rfl).1; have BPy1 := (BP.out.at 1 rfl).2; have BPz2 := (BP.out.at 2 rfl).1; have BPy2 := (BP.out.at 2 rfl).2; have BPz3 := (BP.out.at 3 rfl).1; have BPy3 := (BP.out.at 3 rfl).2; have BPz4 := (BP.out.at 4 rfl).1; have BPy4 := (BP.out.at 4 rfl).2; have BPz5 := (BP.out.at 5 rfl).1; have BPy5 := (BP.out.at 5 rfl).2; have BPz6 := (BP.out.at 6 rfl).1; have BPy6 := (BP.out.at 6 rfl).2; have lBP := BP.out.1) | skip); (first | (refine (fun (BQ : Hid (Cs w4 (w3.heap.size + 1) [.int .i64 0, .int .i64 0, .int .i64 0, .int .i64 0, .int .i64 0, .int .i64 0, .int .i64 0])) => ?_) (Lib.hid (Cs.after ?_ hb)); rotate_left; (focus ((repeat (first | (with_reducible refine Cs.new ?_; focus (first | rfl | (simp; done) | omega)) | with_reducible refine Cs.alloc ?_ _ | with_reducible refine Cs.drew ?_ | with_reducible refine Cs.drewN ?_ _ | (with_reducible refine Cs.other ?_ ?_ _; focus (first | omega | (simp; omega))) | with_reducible apply Cs.put)) <;> first | rfl | (simp; done))); have BQz0 := (BQ.out.at 0 rfl).1; have BQy0 := (BQ.out.at 0 rfl).2; have BQz1 := (BQ.out.at 1 rfl).1; have BQy1 := (BQ.out.at 1 rfl).2; have BQz2 := (BQ.out.at 2 rfl).1; have BQy2 := (BQ.out.at 2 rfl).2; have BQz3 := (BQ.out.at 3 rfl).1; have BQy3 := (BQ.out.at 3 rfl).2; have BQz4 := (BQ.out.at 4 rfl).1; have BQy4 := (BQ.out.at 4 rfl).2; have BQz5 := (BQ.out.at 5 rfl).1; have BQy5 := (BQ.out.at 5 rfl).2; have BQz6 := (BQ.out.at 6 rfl).1; have BQy6 := (BQ.out.at 6 rfl).2; have lBQ := BQ.out.1) | skip); clear hb))
      all_goals go_wp2_with fail
      all_goals go_meet
      all_goals first
        | (with_reducible refine ⟨w4.heap.size, (w4.heap.size + 1), rfl, rfl, rfl, ?_, ?_, ?_, ?_, ?_, ?_⟩
           · omega
           · omega
           · omega
           · exact (Cs.new rfl).alloc _
           · exact Cs.new (World.size_alloc _ _).symm
           · exact blw_alloc (blw_alloc HBX.out _) _)
        | (with_reducible refine ⟨(w4.heap.size + 1), w4.heap.size, rfl, rfl, rfl, ?_, ?_, ?_, ?_, ?_, ?_⟩
           · omega
           · omega
           · omega
           · exact Cs.new (World.size_alloc _ _).symm
           · exact (Cs.new rfl).alloc _
           · exact blw_alloc (blw_alloc HBX.out _) _)
        | (with_reducible refine ⟨w3.heap.size, w4.heap.size, rfl, rfl, rfl, ?_, ?_, ?_, ?_, ?_, ?_⟩
           · omega
           · omega
           · omega
           · with_reducible exact (cs_put7 AP.out).alloc _
           · exact Cs.new (by simp)
           · with_reducible exact blw_alloc (below_set7 HBX.out _ (Nat.le_refl _) _ _ _ _ _ _ _) _)
        | (with_reducible refine ⟨w3.heap.size, (w3.heap.size + 1), rfl, rfl, rfl, ?_, ?_, ?_, ?_, ?_, ?_⟩
           · omega
           · omega
           · omega
           · with_reducible exact cs_set7 (cs_put7 AP.out) (by omega) _ _ _ _ _ _ _
           · with_reducible exact cs_put7 (cs_set7 BQ.out (by omega) _ _ _ _ _ _ _)
           · with_reducible exact below_set7 (below_set7 HBX.out _ (Nat.le_refl _) _ _ _ _ _ _ _) _ (by omega) _ _ _ _ _ _ _)
        | (with_reducible refine ⟨w4.heap.size, w3.heap.size, rfl, rfl, rfl, ?_, ?_, ?_, ?_, ?_, ?_⟩
           · omega
           · omega
           · omega
           · exact Cs.new (by simp)
           · with_reducible exact (cs_put7 BP.out).alloc _
           · with_reducible exact blw_alloc (below_set7 HBX.out _ (Nat.le_refl _) _ _ _ _ _ _ _) _)
        | (with_reducible refine ⟨(w3.heap.size + 1), w3.heap.size, rfl, rfl, rfl, ?_, ?_, ?_, ?_, ?_, ?_⟩
           · omega
           · omega
           · omega
           · with_reducible exact cs_set7 (cs_put7 AQ.out) (by omega) _ _ _ _ _ _ _
           · with_reducible exact cs_put7 (cs_set7 BP.out (by omega) _ _ _ _ _ _ _)
           · with_reducible exact below_set7 (below_set7 HBX.out _ (by omega) _ _ _ _ _ _ _) _ (by omega) _ _ _ _ _ _ _)
    case rest =>
      obtain ⟨p, q, rfl, rfl, rfl, hp, hq, hpq, hcp, hcq, hb⟩ := hcut
      have HB4 := Lib.hid (below_then' HB3.out hb)
      have CP4 := Lib.hid hcp
      have CQ4 := Lib.hid hcq
      clear hb hcp hcq hp hq hpq CA3 CT3 HD3 HB3 HT3
      have p0 := (CP4.out.at 0 rfl).1
      have p1 := (CP4.out.at 1 rfl).1
      have p2 := (CP4.out.at 2 rfl).1
      have p3 := (CP4.out.at 3 rfl).1
      have p4 := (CP4.out.at 4 rfl).1
      have p5 := (CP4.out.at 5 rfl).1
      have p6 := (CP4.out.at 6 rfl).1
      have q0 := (CQ4.out.at 0 rfl).1
      have q1 := (CQ4.out.at 1 rfl).1
      have q2 := (CQ4.out.at 2 rfl).1
      have q3 := (CQ4.out.at 3 rfl).1
      have q4 := (CQ4.out.at 4 rfl).1
      have q5 := (CQ4.out.at 5 rfl).1
      have q6 := (CQ4.out.at 6 rfl).1
      go_wp2_with (fail)
      go_ret
      exact ⟨rfl, HB4.out⟩
  · have HSO := Lib.hid (fun W (h1 : RdE 2 Debt.Db.enc W D ds) (h2 : RdE 2 Stp.enc W T ts) => (HS.out D dq T tq W h1 HN.out h2).mono (R' := fun e w' => ∃ F fq, e = .returned (.tuple #[.agg #[.int .i64 c.me, .int .i64 c.rev, .int .i64 c.nx, .int .i64 c.mo, .int .i64 c.bo, .int .i64 c.fr, .slice F fs.length fq], .agg #[.int .i64 b0, .int .i64 b1, .int .i64 b2, .int .i64 b3, .int .i64 b4, .int .i64 b5, .int .i64 b6], .int .i64 0]) ∧ Debt.OwDb W.heap.size w' F fq fs ∧ Below W.heap.size W w') fun e w' ⟨h, hb⟩ => by
      rcases h with ⟨h, _⟩ | ⟨_, F, fq, h1, h2⟩
      · exact absurd h hu0
      · exact ⟨F, fq, h1, h2, hb⟩)
    have HU0 := Lib.hid hu0
    clear hu0
    go_cut [12, 13, 14] (fun v1 v2 v3 wx => ∃ p q F fq , v1 = .pointer (some ⟨p, 0, none⟩) ∧ v2 = .pointer (some ⟨q, 0, none⟩) ∧ v3 = .int .i64 0 ∧ w3.heap.size ≤ p ∧ w3.heap.size ≤ q ∧ p ≠ q ∧ Cs wx p [.int .i64 c.me, .int .i64 c.rev, .int .i64 c.nx, .int .i64 c.mo, .int .i64 c.bo, .int .i64 c.fr, .slice F fs.length fq] ∧ Cs wx q [.int .i64 b0, .int .i64 b1, .int .i64 b2, .int .i64 b3, .int .i64 b4, .int .i64 b5, .int .i64 b6] ∧ Debt.OwDb w3.heap.size wx F fq fs ∧ Below w3.heap.size w3 wx)
    case first =>
      have na1 : pa ≠ w3.heap.size := by omega
      have na2 : pa ≠ w3.heap.size + 1 := by omega
      have nt1 : pt ≠ w3.heap.size := by omega
      have nt2 : pt ≠ w3.heap.size + 1 := by omega
      have na3 : w3.heap.size ≠ pa := by omega
      have na4 : w3.heap.size + 1 ≠ pa := by omega
      have nt3 : w3.heap.size ≠ pt := by omega
      have nt4 : w3.heap.size + 1 ≠ pt := by omega
      have ns1 : w3.heap.size ≠ w3.heap.size + 1 := by omega
      have ns2 : w3.heap.size + 1 ≠ w3.heap.size := by omega
      go_region_held3 (fun w' => w'.cell? ⟨pa, 0, none⟩ = some (.int .i64 a0) ∧ w'.cell? ⟨pa, 1, none⟩ = some (.int .i64 a1) ∧ w'.cell? ⟨pa, 2, none⟩ = some (.int .i64 a2) ∧ w'.cell? ⟨pa, 3, none⟩ = some (.int .i64 a3) ∧ w'.cell? ⟨pa, 4, none⟩ = some (.int .i64 a4) ∧ w'.cell? ⟨pa, 5, none⟩ = some (.int .i64 a5) ∧ w'.cell? ⟨pa, 6, none⟩ = some (.slice D ds.length dq) ∧ w'.cell? ⟨pt, 0, none⟩ = some (.slice T ts.length tq) ∧ w'.cell? ⟨pt, 1, none⟩ = some (.int .i64 fix) ∧ w'.cell? ⟨pt, 2, none⟩ = some (.int .i64 bp) ∧ w'.cell? ⟨pt, 3, none⟩ = some (.int .i64 dbp) ∧ w'.cell? ⟨pt, 4, none⟩ = some (.int .i64 al)) (go_keep) (first | (go_at_call 10; refine (picked_any _ _ _ (by omega) (by omega) (by omega)).mono ?_; rintro e w' ⟨rfl, rfl⟩) | (go_at_call 17; refine (HSO.out _ (HD3.out.below (by repeat (first | with_reducible exact Below.refl _ _ | with_reducible refine Base.blw_alloc ?_ _ | with_reducible refine Below.drew ?_))) (HT3.out.below (by repeat (first | with_reducible exact Below.refl _ _ | with_reducible refine Base.blw_alloc ?_ _ | with_reducible refine Below.drew ?_)))).mono ?_; rintro e w4 ⟨F, fq, rfl, ho, hb⟩; have HBX : Hid (Below w3.heap.size w3 w4) := Lib.hid (below_then' (by repeat (first | with_reducible exact Below.refl _ _ | with_reducible refine Base.blw_alloc ?_ _ | with_reducible refine Below.drew ?_)) hb); have hsx := HBX.out.size; have CAX := Lib.hid (CA3.out.after HBX.out); have CTX := Lib.hid (CT3.out.after HBX.out); have xq0 := (CAX.out.at 0 rfl).1; have xq1 := (CAX.out.at 1 rfl).1; have xq2 := (CAX.out.at 2 rfl).1; have xq3 := (CAX.out.at 3 rfl).1; have xq4 := (CAX.out.at 4 rfl).1; have xq5 := (CAX.out.at 5 rfl).1; have xq6 := (CAX.out.at 6 rfl).1; have yq0 := (CTX.out.at 0 rfl).1; have yq1 := (CTX.out.at 1 rfl).1; have yq2 := (CTX.out.at 2 rfl).1; have yq3 := (CTX.out.at 3 rfl).1; have yq4 := (CTX.out.at 4 rfl).1; have lax := CAX.out.1; have ltx := CTX.out.1; (first | (refine (fun (HO0 : Hid (Debt.OwDb (w3.heap.size + 0) w4 F fq fs)) => ?_) (Lib.hid (own_less ho ?_)); rotate_left; (focus (first | (simp; done) | (simp; omega) | omega))) | skip); (first | (refine (fun (HO1 : Hid (Debt.OwDb (w3.heap.size + 1) w4 F fq fs)) => ?_) (Lib.hid (own_less ho ?_)); rotate_left; (focus (first | (simp; done) | (simp; omega) | omega))) | skip); (first | (refine (fun (HO2 : Hid (Debt.OwDb (w3.heap.size + 2) w4 F fq fs)) => ?_) (Lib.hid (own_less ho ?_)); rotate_left; (focus (first | (simp; done) | (simp; omega) | omega))) | skip); (first | (refine (fun (AP : Hid (Cs w4 (w3.heap.size) [.int .i64 0, .int .i64 0, .int .i64 0, .int .i64 0, .int .i64 0, .int .i64 0, .slice none 0 0])) => ?_) (Lib.hid (Cs.after ?_ hb)); rotate_left; (focus ((repeat (first | (with_reducible refine Cs.new ?_; focus (first | rfl | (simp; done) | omega)) | with_reducible refine Cs.alloc ?_ _ | with_reducible refine Cs.drew ?_ | with_reducible refine Cs.drewN ?_ _ | (with_reducible refine Cs.other ?_ ?_ _; focus (first | omega | (simp; omega))) | with_reducible apply Cs.put)) <;> first | rfl | (simp; done))); have APz0 := (AP.out.at 0 rfl).1; have APy0 := (AP.out.at 0 rfl).2; have APz1 := (AP.out.at 1 rfl).1; have APy1 := (AP.out.at 1 rfl).2; have APz2 := (AP.out.at 2 rfl).1; have APy2 := (AP.out.at 2 rfl).2; have APz3 := (AP.out.at 3 rfl).1; have APy3 := (AP.out.at 3 rfl).2; have APz4 := (AP.out.at 4 rfl).1; have APy4 := (AP.out.at 4 rfl).2; have APz5 := (AP.out.at 5 rfl).1; have APy5 := (AP.out.at 5 rfl).2; have APz6 := (AP.out.at 6 rfl).1; have APy6 := (AP.out.at 6 rfl).2; have lAP := AP.out.1) | skip); (first | (refine (fun (AQ : Hid (Cs w4 (w3.heap.size + 1) [.int .i64 0, .int .i64 0, .int .i64 0, .int .i64 0, .int .i64 0, .int .i64 0, .slice none 0 0])) => ?_) (Lib.hid (Cs.after ?_ hb)); rotate_left; (focus ((repeat (first | (with_reducible refine Cs.new ?_; focus (first | rfl | (simp; done) | omega)) | with_reducible refine Cs.alloc ?_ _ | with_reducible refine Cs.drew ?_ | with_reducible refine Cs.drewN ?_ _ | (with_reducible refine Cs.other ?_ ?_ _; focus (first | omega | (simp; omega))) | with_reducible apply Cs.put)) <;> first | rfl | (simp; done))); have AQz0 := (AQ.out.at 0 rfl).1; have AQy0 := (AQ.out.at 0 rfl).2; have AQz1 := (AQ.out.at 1 rfl).1; have AQy1 := (AQ.out.at 1 rfl).2; have AQz2 := (AQ.out.at 2 rfl).1; have AQy2 := (AQ.out.at 2 rfl).2; have AQz3 := (AQ.out.at 3 rfl).1; have AQy3 := (AQ.out.at 3 rfl).2; have AQz4 := (AQ.out.at 4 rfl).1; have AQy4 := (AQ.out.at 4 rfl).2; have AQz5 := (AQ.out.at 5 rfl).1; have AQy5 := (AQ.out.at 5 rfl).2; have AQz6 := (AQ.out.at 6 rfl).1; have AQy6 := (AQ.out.at 6 rfl).2; have lAQ := AQ.out.1) | skip); (first | (refine (fun (BP : Hid (Cs w4 (w3.heap.size) [.int .i64 0, .int .i64 0, .int .i64 0, .int .i64 0, .int .i64 0, .int .i64 0, .int .i64 0])) => ?_) (Lib.hid (Cs.after ?_ hb)); rotate_left; (focus ((repeat (first | (with_reducible refine Cs.new ?_; focus (first | rfl | (simp; done) | omega)) | with_reducible refine Cs.alloc ?_ _ | with_reducible refine Cs.drew ?_ | with_reducible refine Cs.drewN ?_ _ | (with_reducible refine Cs.other ?_ ?_ _; focus (first | omega | (simp; omega))) | with_reducible apply Cs.put)) <;> first | rfl | (simp; done))); have BPz0 := (BP.out.at 0 rfl).1; have BPy0 := (BP.out.at 0 rfl).2; have BPz1 := (BP.out.at 1 rfl).1; have BPy1 := (BP.out.at 1 rfl).2; have BPz2 := (BP.out.at 2 rfl).1; have BPy2 := (BP.out.at 2 rfl).2; have BPz3 := (BP.out.at 3 rfl).1; have BPy3 := (BP.out.at 3 rfl).2; have BPz4 := (BP.out.at 4 rfl).1; have BPy4 := (BP.out.at 4 rfl).2; have BPz5 := (BP.out.at 5 rfl).1; have BPy5 := (BP.out.at 5 rfl).2; have BPz6 := (BP.out.at 6 rfl).1; have BPy6 := (BP.out.at 6 rfl).2; have lBP := BP.out.1) | skip); (first | (refine (fun (BQ : Hid (Cs w4 (w3.heap.size + 1) [.int .i64 0, .int .i64 0, .int .i64 0, .int .i64 0, .int .i64 0, .int .i64 0, .int .i64 0])) => ?_) (Lib.hid (Cs.after ?_ hb)); rotate_left; (focus ((repeat (first | (with_reducible refine Cs.new ?_; focus (first | rfl | (simp; done) | omega)) | with_reducible refine Cs.alloc ?_ _ | with_reducible refine Cs.drew ?_ | with_reducible refine Cs.drewN ?_ _ | (with_reducible refine Cs.other ?_ ?_ _; focus (first | omega | (simp; omega))) | with_reducible apply Cs.put)) <;> first | rfl | (simp; done))); have BQz0 := (BQ.out.at 0 rfl).1; have BQy0 := (BQ.out.at 0 rfl).2; have BQz1 := (BQ.out.at 1 rfl).1; have BQy1 := (BQ.out.at 1 rfl).2; have BQz2 := (BQ.out.at 2 rfl).1; have BQy2 := (BQ.out.at 2 rfl).2; have BQz3 := (BQ.out.at 3 rfl).1; have BQy3 := (BQ.out.at 3 rfl).2; have BQz4 := (BQ.out.at 4 rfl).1; have BQy4 := (BQ.out.at 4 rfl).2; have BQz5 := (BQ.out.at 5 rfl).1; have BQy5 := (BQ.out.at 5 rfl).2; have BQz6 := (BQ.out.at 6 rfl).1; have BQy6 := (BQ.out.at 6 rfl).2; have lBQ := BQ.out.1) | skip); clear hb))
      all_goals go_wp2_with fail
      all_goals go_meet
      all_goals first
        | (with_reducible refine ⟨w4.heap.size, (w4.heap.size + 1), F, fq, rfl, rfl, rfl, ?_, ?_, ?_, ?_, ?_, ?_, ?_⟩
           · omega
           · omega
           · omega
           · exact (Cs.new rfl).alloc _
           · exact Cs.new (World.size_alloc _ _).symm
           · exact odb_alloc (odb_alloc HO0.out _) _
           · exact blw_alloc (blw_alloc HBX.out _) _)
        | (with_reducible refine ⟨(w4.heap.size + 1), w4.heap.size, F, fq, rfl, rfl, rfl, ?_, ?_, ?_, ?_, ?_, ?_, ?_⟩
           · omega
           · omega
           · omega
           · exact Cs.new (World.size_alloc _ _).symm
           · exact (Cs.new rfl).alloc _
           · exact odb_alloc (odb_alloc HO0.out _) _
           · exact blw_alloc (blw_alloc HBX.out _) _)
        | (with_reducible refine ⟨w3.heap.size, w4.heap.size, F, fq, rfl, rfl, rfl, ?_, ?_, ?_, ?_, ?_, ?_, ?_⟩
           · omega
           · omega
           · omega
           · with_reducible exact (cs_put7 AP.out).alloc _
           · exact Cs.new (by simp)
           · with_reducible exact odb_alloc (odb_set7 HO1.out (by omega) (by omega) _ _ _ _ _ _ _) _
           · with_reducible exact blw_alloc (below_set7 HBX.out _ (Nat.le_refl _) _ _ _ _ _ _ _) _)
        | (with_reducible refine ⟨w3.heap.size, (w3.heap.size + 1), F, fq, rfl, rfl, rfl, ?_, ?_, ?_, ?_, ?_, ?_, ?_⟩
           · omega
           · omega
           · omega
           · with_reducible exact cs_set7 (cs_put7 AP.out) (by omega) _ _ _ _ _ _ _
           · with_reducible exact cs_put7 (cs_set7 BQ.out (by omega) _ _ _ _ _ _ _)
           · with_reducible exact odb_set7 (odb_set7 HO2.out (by omega) (Nat.le_refl _) _ _ _ _ _ _ _) (by omega) (by omega) _ _ _ _ _ _ _
           · with_reducible exact below_set7 (below_set7 HBX.out _ (Nat.le_refl _) _ _ _ _ _ _ _) _ (by omega) _ _ _ _ _ _ _)
        | (with_reducible refine ⟨w4.heap.size, w3.heap.size, F, fq, rfl, rfl, rfl, ?_, ?_, ?_, ?_, ?_, ?_, ?_⟩
           · omega
           · omega
           · omega
           · exact Cs.new (by simp)
           · with_reducible exact (cs_put7 BP.out).alloc _
           · with_reducible exact odb_alloc (odb_set7 HO1.out (by omega) (by omega) _ _ _ _ _ _ _) _
           · with_reducible exact blw_alloc (below_set7 HBX.out _ (Nat.le_refl _) _ _ _ _ _ _ _) _)
        | (with_reducible refine ⟨(w3.heap.size + 1), w3.heap.size, F, fq, rfl, rfl, rfl, ?_, ?_, ?_, ?_, ?_, ?_, ?_⟩
           · omega
           · omega
           · omega
           · with_reducible exact cs_set7 (cs_put7 AQ.out) (by omega) _ _ _ _ _ _ _
           · with_reducible exact cs_put7 (cs_set7 BP.out (by omega) _ _ _ _ _ _ _)
           · with_reducible exact odb_set7 (odb_set7 HO2.out (by omega) (Nat.le_refl _) _ _ _ _ _ _ _) (by omega) (by omega) _ _ _ _ _ _ _
           · with_reducible exact below_set7 (below_set7 HBX.out _ (by omega) _ _ _ _ _ _ _) _ (by omega) _ _ _ _ _ _ _)
    case rest =>
      obtain ⟨p, q, F, fq, rfl, rfl, rfl, hp, hq, hpq, hcp, hcq, hof, hb⟩ := hcut
      have HB4 := Lib.hid (below_then' HB3.out hb)
      have CA4 := Lib.hid (CA3.out.after hb)
      have CT4 := Lib.hid (CT3.out.after hb)
      have HT4 := Lib.hid (HT3.out.below hb)
      obtain ⟨h1, h2, h3⟩ := HBR.out
      clear HBR
      subst h1
      have HR2 := Lib.hid h2
      have HR3 := Lib.hid h3
      clear h2 h3
      obtain ⟨c0, c1, c2, c3, c4, c5⟩ := c
      obtain ⟨h1, h2, h3, h4, h5⟩ := HBT.out
      clear HBT
      simp only at h1 h2 h3 h4 h5 hcp
      replace h4 := h4.symm
      subst h1 h2 h3 h4 h5
      have CP4 := Lib.hid hcp
      have CQ4 := Lib.hid hcq
      clear hb hcp hcq hof hp hq hpq CA3 CT3 HD3 HB3 HT3
      obtain ⟨k1, k2, k3, k4, k5⟩ := F1.out HU0.out
      subst k4
      have hu1 : 1 ≤ b6 := by have := HU0.out; omega
      have la4 := CA4.out.1
      have lt4 := CT4.out.1
      have lp4 := CP4.out.1
      have lq4 := CQ4.out.1
      have x0 := (CA4.out.at 0 rfl).1
      have x1 := (CA4.out.at 1 rfl).1
      have x2 := (CA4.out.at 2 rfl).1
      have x3 := (CA4.out.at 3 rfl).1
      have x4 := (CA4.out.at 4 rfl).1
      have x5 := (CA4.out.at 5 rfl).1
      have x6 := (CA4.out.at 6 rfl).1
      have y0 := (CT4.out.at 0 rfl).1
      have y1 := (CT4.out.at 1 rfl).1
      have y2 := (CT4.out.at 2 rfl).1
      have y3 := (CT4.out.at 3 rfl).1
      have y4 := (CT4.out.at 4 rfl).1
      have p0 := (CP4.out.at 0 rfl).1
      have p1 := (CP4.out.at 1 rfl).1
      have p2 := (CP4.out.at 2 rfl).1
      have p3 := (CP4.out.at 3 rfl).1
      have p4 := (CP4.out.at 4 rfl).1
      have p5 := (CP4.out.at 5 rfl).1
      have p6 := (CP4.out.at 6 rfl).1
      have q0 := (CQ4.out.at 0 rfl).1
      have q1 := (CQ4.out.at 1 rfl).1
      have q2 := (CQ4.out.at 2 rfl).1
      have q3 := (CQ4.out.at 3 rfl).1
      have q4 := (CQ4.out.at 4 rfl).1
      have q5 := (CQ4.out.at 5 rfl).1
      have q6 := (CQ4.out.at 6 rfl).1
      have HAS : Hid (g4 + b6 - b6 = g4) := Lib.hid (by omega)
      go_wp2_with (fail)
      go_at_call 18
      refine (HPRI.out T tq _ HT4.out).mono ?_
      rintro e w5 ⟨rfl, hb⟩
      have HB5 := Lib.hid (below_then' HB4.out hb)
      have HT5 := Lib.hid (HT4.out.below hb)
      have CA5 := Lib.hid (CA4.out.after hb)
      have CT5 := Lib.hid (CT4.out.after hb)
      have CP5 := Lib.hid (CP4.out.after hb)
      have CQ5 := Lib.hid (CQ4.out.after hb)
      clear hb x0 x1 x2 x3 x4 x5 x6 y0 y1 y2 y3 y4 p0 p1 p2 p3 p4 p5 p6 q0 q1 q2 q3 q4 q5 q6 CA4 CT4 CP4 CQ4 HB4 HT4
      have la5 := CA5.out.1
      have lt5 := CT5.out.1
      have lp5 := CP5.out.1
      have lq5 := CQ5.out.1
      have x0 := (CA5.out.at 0 rfl).1
      have x1 := (CA5.out.at 1 rfl).1
      have x2 := (CA5.out.at 2 rfl).1
      have x3 := (CA5.out.at 3 rfl).1
      have x4 := (CA5.out.at 4 rfl).1
      have x5 := (CA5.out.at 5 rfl).1
      have x6 := (CA5.out.at 6 rfl).1
      have y0 := (CT5.out.at 0 rfl).1
      have y1 := (CT5.out.at 1 rfl).1
      have y2 := (CT5.out.at 2 rfl).1
      have y3 := (CT5.out.at 3 rfl).1
      have y4 := (CT5.out.at 4 rfl).1
      have p0 := (CP5.out.at 0 rfl).1
      have p1 := (CP5.out.at 1 rfl).1
      have p2 := (CP5.out.at 2 rfl).1
      have p3 := (CP5.out.at 3 rfl).1
      have p4 := (CP5.out.at 4 rfl).1
      have p5 := (CP5.out.at 5 rfl).1
      have p6 := (CP5.out.at 6 rfl).1
      have q0 := (CQ5.out.at 0 rfl).1
      have q1 := (CQ5.out.at 1 rfl).1
      have q2 := (CQ5.out.at 2 rfl).1
      have q3 := (CQ5.out.at 3 rfl).1
      have q4 := (CQ5.out.at 4 rfl).1
      have q5 := (CQ5.out.at 5 rfl).1
      have q6 := (CQ5.out.at 6 rfl).1
      have n1 : (one != one) = false := by simp
      have n2 : (g3 != g3) = false := by simp
      have n3 : decide (b6 < 1) = false := decide_eq_false (by omega)
      by_cases hm : g3 = a3
      · have t1 : (g3 == a3) = true := by simp [hm]
        have t2 : (g4 != a4) = false := by have := HR2.out hm; simp [this]
        have t3 : (g3 != a3) = false := by simp [hm]
        clear hm
        by_cases k6 : b6 = 2097151
        · have e1 : (b6 == 2097151) = true := by simp [k6]
          have K6 := Lib.hid k6
          clear k6 k5
          go_wp2_with (fail)
          go_ret
          exact ⟨rfl, HB5.out⟩
        · have e1 : (b6 == 2097151) = false := by simp [k6]
          by_cases k7 : g4 + b6 = 10000000
          · have e2 : (g4 + b6 == 10000000) = true := by simp [k7]
            have K7 := Lib.hid k7
            clear k7 k6 k5
            go_wp2_with (fail)
            go_ret
            exact ⟨rfl, HB5.out⟩
          · have e2 : (g4 + b6 == 10000000) = false := by simp [k7]
            have k8 : one + (re - one) < two := by omega
            have k9 : b6 + 1 ≤ 2097151 := by omega
            have k10 : g4 + (b6 + 1) ≤ 10000000 := by omega
            clear k5 k6 k7
            go_wp2_with (fail)
            go_at_call 18
            refine (HPRJ.out T tq _ HT5.out k9 k10).mono ?_
            rintro e w6 ⟨rfl, hb⟩
            have HB6 := Lib.hid (below_then' HB5.out hb)
            have CQ6 := Lib.hid (CQ5.out.after hb)
            clear hb
            have q0 := (CQ6.out.at 0 rfl).1
            have q1 := (CQ6.out.at 1 rfl).1
            have q2 := (CQ6.out.at 2 rfl).1
            have q3 := (CQ6.out.at 3 rfl).1
            have q4 := (CQ6.out.at 4 rfl).1
            have q5 := (CQ6.out.at 5 rfl).1
            have q6 := (CQ6.out.at 6 rfl).1
            have z0 : decide (one + (re - one) < two) = true := decide_eq_true k8
            go_wp2_with (fail)
            go_ret
            exact ⟨rfl, HB6.out⟩
      · have t1 : (g3 == a3) = false := by simp [hm]
        have t2 : (g4 != 0) = false := by have := HR3.out hm; simp [this]
        have t3 : (g3 != a3) = true := by simp [hm]
        clear hm
        by_cases k6 : b6 = 2097151
        · have e1 : (b6 == 2097151) = true := by simp [k6]
          have K6 := Lib.hid k6
          clear k6 k5
          go_wp2_with (fail)
          go_ret
          exact ⟨rfl, HB5.out⟩
        · have e1 : (b6 == 2097151) = false := by simp [k6]
          by_cases k7 : g4 + b6 = 10000000
          · have e2 : (g4 + b6 == 10000000) = true := by simp [k7]
            have K7 := Lib.hid k7
            clear k7 k6 k5
            go_wp2_with (fail)
            go_ret
            exact ⟨rfl, HB5.out⟩
          · have e2 : (g4 + b6 == 10000000) = false := by simp [k7]
            have k8 : one + (re - one) < two := by omega
            have k9 : b6 + 1 ≤ 2097151 := by omega
            have k10 : g4 + (b6 + 1) ≤ 10000000 := by omega
            clear k5 k6 k7
            go_wp2_with (fail)
            go_at_call 18
            refine (HPRJ.out T tq _ HT5.out k9 k10).mono ?_
            rintro e w6 ⟨rfl, hb⟩
            have HB6 := Lib.hid (below_then' HB5.out hb)
            have CQ6 := Lib.hid (CQ5.out.after hb)
            clear hb
            have q0 := (CQ6.out.at 0 rfl).1
            have q1 := (CQ6.out.at 1 rfl).1
            have q2 := (CQ6.out.at 2 rfl).1
            have q3 := (CQ6.out.at 3 rfl).1
            have q4 := (CQ6.out.at 4 rfl).1
            have q5 := (CQ6.out.at 5 rfl).1
            have q6 := (CQ6.out.at 6 rfl).1
            have z0 : decide (one + (re - one) < two) = true := decide_eq_true k8
            go_wp2_with (fail)
            go_ret
            exact ⟨rfl, HB6.out⟩
end Go.Proofs.Ytfdgjaahmbjnpaa.SellMost
