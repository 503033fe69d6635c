/- The contract of (*account.clerk).sell. -/
import Derived.Test.YtfdgjaahmbjnpaaAcc4
import Derived.Deep.RegionLaw
namespace Go.Proofs.Ytfdgjaahmbjnpaa.Acc
open Go.RowKit Go.Proofs.Ytfdgjaahmbjnpaa.Base Go.Proofs.Ytfdgjaahmbjnpaa.Tar
set_option linter.unusedVariables false
set_option linter.unusedSimpArgs false
set_option maxRecDepth 20000
structure Bl where
  id : Int
  te : Int
  de : Int
  fe : Int
  pr : Int
  ch : Int
  un : Int
def Bl.vals (b : Bl) : List Value := [.int .i64 b.id, .int .i64 b.te, .int .i64 b.de, .int .i64 b.fe, .int .i64 b.pr, .int .i64 b.ch, .int .i64 b.un]
/-- Debts left, and what was paid. -/
def sellD (ds : List Debt.Db) (x : Tm) (te : Int) : List Debt.Db × Int := Debt.recL (te * x.dbp / 10000) ds
def sellF (x : Tm) (te : Int) : Int := x.fix + te * x.bp / 10000
def sellR (ds : List Debt.Db) (x : Tm) (te : Int) : Int := te - (sellD ds x te).2 - sellF x te
/-- Units and price. -/
def sellU (a : Ac) (ds : List Debt.Db) (ts : List Stp) (x : Tm) (te : Int) : Int × Int := if 0 ≤ sellR ds x te then mostL (sellR ds x te) ts a.bo 0 0 else (0, 0)
def sellB (a : Ac) (ds : List Debt.Db) (ts : List Stp) (x : Tm) (te : Int) : Bl := ⟨a.nx, te, (sellD ds x te).2, sellF x te, (sellU a ds ts x te).2, sellR ds x te - (sellU a ds ts x te).2, (sellU a ds ts x te).1⟩
def sellA (a : Ac) (ds : List Debt.Db) (ts : List Stp) (x : Tm) (te : Int) : Ac := { a with nx := a.nx + 1, bo := a.bo + (sellU a ds ts x te).1 }
theorem odb_below {B0 : Nat} {w : World} {A : Option Addr} {c : Nat} {xs : List Debt.Db} (h : Debt.OwDb B0 w A c xs) {p : Nat} (hp : p < B0) (j : Nat) (v : Value) : Debt.OwDb B0 (w.setCell ⟨p, j, none⟩ v) A c xs := ownsRow_setCell_below (a := ⟨p, j, none⟩) h hp v
set_option maxHeartbeats 8000000 in
theorem sell_any (a : Ac) (ds : List Debt.Db) (D : Option Addr) (dq : Nat) (T : Option Addr) (tq : Nat) (x : Tm) (ts : List Stp) (te : Int) (b B0 : Nat) (w : World) (hc : Cs w b (clk a D ds.length dq T ts.length tq x)) (hD : Debt.OwDb B0 w D dq ds) (hB : B0 ≤ w.heap.size) (hT : RdE 2 Stp.enc w T ts) (hTb : ∀ ad, T = some ad → ad.block < b)
    (hG : TG 0 ts) (h1 : 1 ≤ ts.length) (h8 : ts.length ≤ 8) (hx : x.ok) (ha : a.ok) (hnx : a.nx ≤ 1048575) (t0 : 1 ≤ te) (t1 : te ≤ 100000000) (hn : ds.length ≤ 8) (hk : ∀ x ∈ ds, x.ok) :
    Calls Try.prog 38 #[.pointer (some ⟨b, 0, none⟩), .int .i64 te] w fun e w' =>
      (((sellU a ds ts x te).1 = 0 ∧ e = .returned (.tuple #[.agg #[.int .i64 0, .int .i64 0, .int .i64 0, .int .i64 0, .int .i64 0, .int .i64 0, .int .i64 0], .int .i64 19])) ∨
       ((sellU a ds ts x te).1 ≠ 0 ∧ e = .returned (.tuple #[.agg (sellB a ds ts x te).vals.toArray, .int .i64 0]) ∧ ∃ D' dq', Cs w' b (clk (sellA a ds ts x te) D' (sellD ds x te).1.length dq' T ts.length tq x) ∧ Debt.OwDb B0 w' D' dq' (sellD ds x te).1)) ∧ Below b w w' := by
  obtain ⟨⟨x0, x1⟩, ⟨x2, x3⟩, ⟨x4, x5⟩, x6, x7⟩ := hx
  obtain ⟨⟨a0, a1⟩, ⟨a2, a3⟩, ⟨a4, a5⟩, ⟨a6, a7⟩, ⟨a8, a9⟩, a10, a11⟩ := ha
  have hsh0 : 0 ≤ te * x.dbp / 10000 := Int.ediv_nonneg (Int.mul_nonneg (by omega) x4) (by omega)
  have hinv := Debt.recL_inv (te * x.dbp / 10000) hsh0 ds hk
  have hm1 : te * x.dbp ≤ 100000000 * 10000 := Int.mul_le_mul t1 x5 x4 (by omega)
  have hm2 : te * x.bp ≤ 100000000 * 10000 := Int.mul_le_mul t1 x3 x2 (by omega)
  have hm0 : 0 ≤ te * x.bp := Int.mul_nonneg (by omega) x2
  have HREC := Lib.hid (fun W hW => Debt.recover_any ds te x.dbp D dq W hW hn hk (by omega) t1 x4 x5)
  have HPART := Lib.hid (fun W => Debt.part_any te x.bp W (by omega) (by omega) x2 x3)
  have HMOST := Lib.hid (fun (W : World) (m : Int) (hW : RdE 2 Stp.enc W T ts) (m0 : 0 ≤ m) (m1 : m ≤ 1000000000000) => most_any ts T tq a.bo m W hW hG h1 h8 a8 a9 m0 m1)
  have HML := Lib.hid (fun (m : Int) (m0 : 0 ≤ m) => most_law m ts 0 a.bo 0 0 hG a8 a9 (by omega) m0 (by omega) (by omega) _ rfl)
  have HC := Lib.hid hc
  have HD := Lib.hid hD
  have HT := Lib.hid (fun (W : World) (h : Below b w W) => (RdE.heap hT (fun ad e => h.block ad.block (hTb ad e)) : RdE 2 Stp.enc W T ts))
  unfold sellB sellA sellU sellR sellF sellD
  obtain ⟨left, hleft⟩ : ∃ l, l = (Debt.recL (te * x.dbp / 10000) ds).1 := ⟨_, rfl⟩
  obtain ⟨paid, hpaid⟩ : ∃ l, l = (Debt.recL (te * x.dbp / 10000) ds).2 := ⟨_, rfl⟩
  rw [← hleft, ← hpaid] at hinv HREC
  rw [← hleft, ← hpaid]
  clear hleft hpaid
  obtain ⟨⟨p0, p1⟩, _, hll⟩ := hinv
  have hp2 : paid ≤ 100000000 := by omega
  obtain ⟨sf, hsf⟩ : ∃ s, s = te * x.bp / 10000 := ⟨_, rfl⟩
  have hsf0 : 0 ≤ sf ∧ sf ≤ 100000000 := by omega
  rw [← hsf] at HPART
  rw [← hsf]
  obtain ⟨fe, hfe⟩ : ∃ s, s = x.fix + sf := ⟨_, rfl⟩
  rw [← hfe]
  obtain ⟨re, hre⟩ : ∃ s, s = te - paid - fe := ⟨_, rfl⟩
  rw [← hre]
  have hre1 : -200100000 ≤ re ∧ re ≤ 100000000 := by omega
  obtain ⟨u, hu⟩ : ∃ u, u = (if 0 ≤ re then mostL re ts a.bo 0 0 else (0, 0)) := ⟨_, rfl⟩
  rw [← hu]
  have HU : Hid (0 ≤ u.1 ∧ u.1 ≤ 2097151 ∧ a.bo + u.1 ≤ 10000000 ∧ 0 ≤ u.2 ∧ (0 ≤ re → u.2 ≤ re) ∧ (re < 0 → u.2 = 0)) := Lib.hid (by
    rw [hu]
    by_cases hr0 : 0 ≤ re
    · rw [if_pos hr0]
      obtain ⟨q1, q2, q3, q4, q5, _⟩ := HML.out re hr0
      exact ⟨q1, q2, by omega, q4, fun _ => q5, fun h => by omega⟩
    · rw [if_neg hr0]
      exact ⟨Int.le_refl _, by show (0 : Int) ≤ 2097151; omega, by show a.bo + 0 ≤ 10000000; omega, Int.le_refl _, fun h => absurd h hr0, fun _ => rfl⟩)
  have HU2 := Lib.hid hu
  have HFE := Lib.hid hfe.symm
  have HRE := Lib.hid hre.symm
  obtain ⟨me, rev, nx, mo, bo, fr⟩ := a
  obtain ⟨fix, bp, dbp, al⟩ := x
  obtain ⟨un, pr⟩ := u
  unfold clk Bl.vals
  unfold clk at HC
  simp only at *
  have W1 := Lib.hid (show decide ((1 : Int) ≤ te ∧ te ≤ 100000000) = true by rw [decide_eq_true_iff]; omega)
  have hbl := HC.out.1
  clear hc hD hT hTb hu hfe hre hsf hm1 hm2 hm0 hG hk hsh0
  have g2 := (HC.out.at 2 rfl).1
  have g4 := (HC.out.at 4 rfl).1
  have g6 := (HC.out.at 6 rfl).1
  have g7 := (HC.out.at 7 rfl).1
  have g8 := (HC.out.at 8 rfl).1
  have g9 := (HC.out.at 9 rfl).1
  have g10 := (HC.out.at 10 rfl).1
  have nb1 : b ≠ w.heap.size := by omega
  have nb2 : w.heap.size ≠ b := by omega
  have nb3 : b ≠ w.heap.size + 1 := by omega
  have nb4 : w.heap.size + 1 ≠ b := by omega
  go_enter Try.func38, Try.ntmps38
  go_wp2_with ((go_at_call 66; refine (within_any _ _ _ _).mono ?_; rintro e w' ⟨rfl, rfl⟩; rw [W1.out]))
  go_cut [] (fun wx => ∃ D2 dq2, Cs wx b [.int .i64 me, .int .i64 rev, .int .i64 nx, .int .i64 mo, .int .i64 bo, .int .i64 fr, .slice D2 left.length dq2, .slice T ts.length tq, .int .i64 fix, .int .i64 bp, .int .i64 dbp, .int .i64 al] ∧ Cs wx (w.heap.size + 1) [.int .i64 nx, .int .i64 te, .int .i64 paid, .int .i64 0, .int .i64 0, .int .i64 0, .int .i64 0] ∧ Cs wx w.heap.size [.int .i64 0, .int .i64 0, .int .i64 0, .int .i64 0, .int .i64 0, .int .i64 0, .int .i64 0] ∧ Debt.OwDb (w.heap.size + 2) wx D2 dq2 left ∧ Below b w wx ∧ w.heap.size ≤ wx.heap.size)
  case first =>
    go_region_law (first | (go_simp; go_at_call 20; refine (HREC.out _ (HD.out.read.below (by repeat (first | with_reducible exact Below.refl _ _ | with_reducible refine Base.blw_alloc ?_ _ | with_reducible refine Below.drew ?_)))).mono ?_; rintro e w1 ⟨E, eq, rfl, ho, hb⟩; have HBX : Hid (Below w.heap.size w w1) := Lib.hid (below_then' (by repeat (first | with_reducible exact Below.refl _ _ | with_reducible refine Base.blw_alloc ?_ _ | with_reducible refine Below.drew ?_)) hb); have CB2 := Lib.hid ((show Cs _ (w.heap.size + 1) [.int .i64 nx, .int .i64 te, .int .i64 0, .int .i64 0, .int .i64 0, .int .i64 0, .int .i64 0] from (by (repeat (first | (with_reducible refine Cs.new ?_; focus (first | rfl | (simp; done) | omega)) | with_reducible refine Cs.alloc ?_ _ | with_reducible refine Cs.drew ?_ | with_reducible refine Cs.drewN ?_ _ | (with_reducible refine Cs.other ?_ ?_ _; focus (first | omega | (simp; omega))) | with_reducible apply Cs.put)) <;> first | rfl | (simp; done))).after hb); have CZ2 := Lib.hid ((show Cs _ (w.heap.size) [.int .i64 0, .int .i64 0, .int .i64 0, .int .i64 0, .int .i64 0, .int .i64 0, .int .i64 0] from (by (repeat (first | (with_reducible refine Cs.new ?_; focus (first | rfl | (simp; done) | omega)) | with_reducible refine Cs.alloc ?_ _ | with_reducible refine Cs.drew ?_ | with_reducible refine Cs.drewN ?_ _ | (with_reducible refine Cs.other ?_ ?_ _; focus (first | omega | (simp; omega))) | with_reducible apply Cs.put)) <;> first | rfl | (simp; done))).after hb); have CC2 := Lib.hid (HC.out.after HBX.out); have HOX := Lib.hid (show Debt.OwDb (w.heap.size + 2) w1 E eq left from own_less ho (by first | (simp; done) | (simp; omega))); have lb := CC2.out.1; have lp := CB2.out.1; have c6 := (CC2.out.at 6 rfl).1; have f6 := (CC2.out.at 6 rfl).2; have c2 := (CB2.out.at 2 rfl).1; have f2 := (CB2.out.at 2 rfl).2; have hsz := HBX.out.size; clear hb ho))
    all_goals go_wp2_with fail
    all_goals go_meet
    all_goals
      refine ⟨E, eq, Cs.other (a := ⟨w.heap.size + 1, 2, none⟩) nb4 (Cs.put (i := 6) CC2.out (by simp) rfl) _, Cs.put (i := 2) (Cs.other (a := ⟨b, 6, none⟩) nb3 CB2.out _) (by simp) rfl, Cs.other (a := ⟨w.heap.size + 1, 2, none⟩) (by show w.heap.size + 1 ≠ w.heap.size; omega) (Cs.other (a := ⟨b, 6, none⟩) nb1 CZ2.out _) _, ?_, ?_, ?_⟩
      · exact odb_below (odb_below HOX.out (show b < w.heap.size + 2 by omega) 6 _) (show w.heap.size + 1 < w.heap.size + 2 by omega) 2 _
      · exact ((HBX.out.mono (show b ≤ w.heap.size by omega)).setCell (p := ⟨b, 6, none⟩) (Nat.le_refl _) _).setCell (p := ⟨w.heap.size + 1, 2, none⟩) (show b ≤ w.heap.size + 1 by omega) _
      · simp; omega
  case rest =>
    obtain ⟨D2, dq2, hcc, hcb, hcz, ho, hb, hsz⟩ := hcut
    have CC := Lib.hid hcc
    have CB := Lib.hid hcb
    have CZ := Lib.hid hcz
    have HO := Lib.hid ho
    have HB := Lib.hid hb
    have lb := hcc.1
    have lp := hcb.1
    clear hcc hcb hcz ho hb g2 g4 g6 g7 g8 g9 g10
    have g9 := (CC.out.at 9 rfl).1
    have g8 := (CC.out.at 8 rfl).1
    have k2 := (CB.out.at 2 rfl).1
    have k3 := (CB.out.at 3 rfl).1
    have f3 := (CB.out.at 3 rfl).2
    go_wp2_with (fail)
    go_at_call 21
    refine (HPART.out _).mono ?_
    rintro e w' ⟨rfl, rfl⟩
    go_upto_region 8 with fail
    rw [HFE.out, HRE.out]
    go_upto_if 68 with fail
    have CC2 := Lib.hid (Cs.other (a := ⟨w.heap.size + 1, 3, none⟩) nb4 CC.out (.int .i64 fe))
    have CZ2 := Lib.hid (Cs.other (a := ⟨w.heap.size + 1, 3, none⟩) (show w.heap.size + 1 ≠ w.heap.size by omega) CZ.out (.int .i64 fe))
    have CB2 := Lib.hid (show Cs (wc.setCell ⟨w.heap.size + 1, 3, none⟩ (.int .i64 fe)) (w.heap.size + 1) [.int .i64 nx, .int .i64 te, .int .i64 paid, .int .i64 fe, .int .i64 0, .int .i64 0, .int .i64 0] from Cs.put (i := 3) CB.out (by simp) rfl)
    have HB2 := Lib.hid (HB.out.setCell (p := ⟨w.heap.size + 1, 3, none⟩) (show b ≤ w.heap.size + 1 by omega) (.int .i64 fe))
    have HO2 := Lib.hid (odb_below HO.out (show w.heap.size + 1 < w.heap.size + 2 by omega) 3 (.int .i64 fe))
    generalize wc.setCell ⟨w.heap.size + 1, 3, none⟩ (.int .i64 fe) = wd at *
    clear CC CB CZ HB HO g8 g9 k2 k3 f3 lb lp hsz
    have g4 := (CC2.out.at 4 rfl).1
    have g7 := (CC2.out.at 7 rfl).1
    have hsz2 := CB2.out.1
    go_cut [] (fun wx => Cs wx b [.int .i64 me, .int .i64 rev, .int .i64 nx, .int .i64 mo, .int .i64 bo, .int .i64 fr, .slice D2 left.length dq2, .slice T ts.length tq, .int .i64 fix, .int .i64 bp, .int .i64 dbp, .int .i64 al] ∧ Cs wx (w.heap.size + 1) [.int .i64 nx, .int .i64 te, .int .i64 paid, .int .i64 fe, .int .i64 pr, .int .i64 0, .int .i64 un] ∧ Cs wx w.heap.size [.int .i64 0, .int .i64 0, .int .i64 0, .int .i64 0, .int .i64 0, .int .i64 0, .int .i64 0] ∧ Debt.OwDb (w.heap.size + 2) wx D2 dq2 left ∧ Below b w wx)
    case first =>
      by_cases hr0 : 0 ≤ re
      · have HQ := Lib.hid (show mostL re ts bo 0 0 = (un, pr) by have := HU2.out; rw [if_pos hr0] at this; exact this.symm)
        have HMO := Lib.hid (fun W hW => HMOST.out W re hW hr0 (by omega))
        rw [HQ.out] at HMO
        simp only at HMO
        have p6 := (CB2.out.at 6 rfl).1
        have q6 := (CB2.out.at 6 rfl).2
        have p4 := (CB2.out.at 4 rfl).1
        have q4 := (CB2.out.at 4 rfl).2
        go_wp2_with fail
        go_region_law (first | (go_simp; go_at_call 68; refine (HMO.out _ (HT.out _ (HB2.out.trans ((Below.refl wd.heap.size wd).drew.mono (show b ≤ wd.heap.size by omega))))).mono ?_; rintro e w1 ⟨rfl, hb⟩; have HBX : Hid (Below wd.heap.size wd w1) := Lib.hid (below_then' (by repeat (first | with_reducible exact Below.refl _ _ | with_reducible refine Base.blw_alloc ?_ _ | with_reducible refine Below.drew ?_)) hb); have CB3 := Lib.hid (CB2.out.after HBX.out); have lp := CB3.out.1; have p6 := (CB3.out.at 6 rfl).1; have q6 := (CB3.out.at 6 rfl).2; have p4 := (CB3.out.at 4 rfl).1; have q4 := (CB3.out.at 4 rfl).2; clear hb))
        all_goals go_wp2_with fail
        all_goals go_meet
        all_goals
          refine ⟨Cs.other (a := ⟨w.heap.size + 1, 4, none⟩) nb4 (Cs.other (a := ⟨w.heap.size + 1, 6, none⟩) nb4 (CC2.out.after HBX.out) _) _, Cs.put (i := 4) (Cs.put (i := 6) CB3.out (by simp) rfl) (by simp) rfl, Cs.other (a := ⟨w.heap.size + 1, 4, none⟩) (show w.heap.size + 1 ≠ w.heap.size by omega) (Cs.other (a := ⟨w.heap.size + 1, 6, none⟩) (show w.heap.size + 1 ≠ w.heap.size by omega) (CZ2.out.after HBX.out) _) _, ?_, ?_⟩
          · exact odb_below (odb_below (own_kept HO2.out HBX.out) (show w.heap.size + 1 < w.heap.size + 2 by omega) 6 _) (show w.heap.size + 1 < w.heap.size + 2 by omega) 4 _
          · exact ((HB2.out.trans (HBX.out.mono (show b ≤ wd.heap.size by omega))).setCell (p := ⟨w.heap.size + 1, 6, none⟩) (show b ≤ w.heap.size + 1 by omega) _).setCell (p := ⟨w.heap.size + 1, 4, none⟩) (show b ≤ w.heap.size + 1 by omega) _
      · have HQ := Lib.hid (show (un, pr) = (0, 0) by have := HU2.out; rw [if_neg hr0] at this; exact this)
        have hq1 : un = 0 := congrArg Prod.fst HQ.out
        have hq2 : pr = 0 := congrArg Prod.snd HQ.out
        have HQ1 := Lib.hid hq1
        have HQ2 := Lib.hid hq2
        clear hq1 hq2
        go_wp2_with fail
        go_meet
        refine ⟨CC2.out, ?_, CZ2.out, HO2.out, HB2.out⟩
        rw [HQ1.out, HQ2.out]
        exact CB2.out
    case rest =>
      obtain ⟨hcc, hcb, hcz, ho, hb⟩ := hcut
      have CC := Lib.hid hcc
      have CB := Lib.hid hcb
      have CZ := Lib.hid hcz
      have HO := Lib.hid ho
      have HB := Lib.hid hb
      have lb := hcc.1
      have lp := hcb.1
      have lz := hcz.1
      have hsz := hb.size
      clear hcc hcb hcz ho hb g4 g7 CC2 CB2 CZ2 HO2 HB2 hsz2
      have p6 := (CB.out.at 6 rfl).1
      have p4 := (CB.out.at 4 rfl).1
      have z0 := (CZ.out.at 0 rfl).1
      have y0 := (CZ.out.at 0 rfl).2
      have z1 := (CZ.out.at 1 rfl).1
      have y1 := (CZ.out.at 1 rfl).2
      have z2 := (CZ.out.at 2 rfl).1
      have y2 := (CZ.out.at 2 rfl).2
      have z3 := (CZ.out.at 3 rfl).1
      have y3 := (CZ.out.at 3 rfl).2
      have z4 := (CZ.out.at 4 rfl).1
      have y4 := (CZ.out.at 4 rfl).2
      have z5 := (CZ.out.at 5 rfl).1
      have y5 := (CZ.out.at 5 rfl).2
      have z6 := (CZ.out.at 6 rfl).1
      have y6 := (CZ.out.at 6 rfl).2
      have hnn : w.heap.size + 1 ≠ w.heap.size := by omega
      have hnm : w.heap.size ≠ w.heap.size + 1 := by omega
      by_cases hun : un = 0
      · have c1 : (un == 0) = true := by simp [hun]
        have HUN := Lib.hid hun
        clear hun
        go_wp2_with fail
        refine bodyPost_ret (v := .tuple #[.agg #[.int .i64 0, .int .i64 0, .int .i64 0, .int .i64 0, .int .i64 0, .int .i64 0, .int .i64 0], .int .i64 19]) (by simp [results, Try.results38, go_sem, z0, y0, z1, y1, z2, y2, z3, y3, z4, y4, z5, y5, z6, y6]) rfl ⟨.inl ⟨HUN.out, rfl⟩, below_set7 HB.out _ (by omega) _ _ _ _ _ _ _⟩
      · have c1 : (un == 0) = false := by simp [hun]
        have HUN := Lib.hid hun
        clear hun
        obtain ⟨u0, u1, u2, u3, u4, u5⟩ := HU.out
        have hch : -400000000 ≤ re - pr ∧ re - pr ≤ 100000000 := by
          by_cases h : 0 ≤ re
          · have := u4 h; omega
          · have := u5 (by omega); omega
        have hnx2 : ¬ 1048575 < nx := by omega
        have g2 := (CC.out.at 2 rfl).1
        have p5 := (CB.out.at 5 rfl).1
        have q5 := (CB.out.at 5 rfl).2
        clear u4 u5
        go_upto_region 15 with fail
        have CC2 := Lib.hid (Cs.other (a := ⟨w.heap.size + 1, 5, none⟩) nb4 CC.out (.int .i64 (re - pr)))
        have CZ2 := Lib.hid (Cs.other (a := ⟨w.heap.size + 1, 5, none⟩) hnn CZ.out (.int .i64 (re - pr)))
        have CB2 := Lib.hid (show Cs (wc.setCell ⟨w.heap.size + 1, 5, none⟩ (.int .i64 (re - pr))) (w.heap.size + 1) [.int .i64 nx, .int .i64 te, .int .i64 paid, .int .i64 fe, .int .i64 pr, .int .i64 (re - pr), .int .i64 un] from Cs.put (i := 5) CB.out (by simp) rfl)
        have HB2 := Lib.hid (HB.out.setCell (p := ⟨w.heap.size + 1, 5, none⟩) (show b ≤ w.heap.size + 1 by omega) (.int .i64 (re - pr)))
        have HO2 := Lib.hid (odb_below HO.out (show w.heap.size + 1 < w.heap.size + 2 by omega) 5 (.int .i64 (re - pr)))
        generalize wc.setCell ⟨w.heap.size + 1, 5, none⟩ (.int .i64 (re - pr)) = we at *
        clear CC CB CZ HO HB lb lp lz g2 p4 p5 p6 q5 z0 y0 z1 y1 z2 y2 z3 y3 z4 y4 z5 y5 z6 y6
        have g4 := (CC2.out.at 4 rfl).1
        have k4 := (CC2.out.at 4 rfl).2
        have p6 := (CB2.out.at 6 rfl).1
        have lb := CC2.out.1
        go_region
        have CC3 := Lib.hid (show Cs (we.setCell ⟨b, 4, none⟩ (.int .i64 (bo + un))).drew b [.int .i64 me, .int .i64 rev, .int .i64 nx, .int .i64 mo, .int .i64 (bo + un), .int .i64 fr, .slice D2 left.length dq2, .slice T ts.length tq, .int .i64 fix, .int .i64 bp, .int .i64 dbp, .int .i64 al] from (Cs.put (i := 4) CC2.out (by simp) rfl).drew)
        have CZ3 := Lib.hid (show Cs (we.setCell ⟨b, 4, none⟩ (.int .i64 (bo + un))).drew w.heap.size [.int .i64 0, .int .i64 0, .int .i64 0, .int .i64 0, .int .i64 0, .int .i64 0, .int .i64 0] from (Cs.other (a := ⟨b, 4, none⟩) nb1 CZ2.out _).drew)
        have CB3 := Lib.hid (show Cs (we.setCell ⟨b, 4, none⟩ (.int .i64 (bo + un))).drew (w.heap.size + 1) [.int .i64 nx, .int .i64 te, .int .i64 paid, .int .i64 fe, .int .i64 pr, .int .i64 (re - pr), .int .i64 un] from (Cs.other (a := ⟨b, 4, none⟩) nb3 CB2.out _).drew)
        have HB3 := Lib.hid (show Below b w (we.setCell ⟨b, 4, none⟩ (.int .i64 (bo + un))).drew from (HB2.out.setCell (p := ⟨b, 4, none⟩) (Nat.le_refl _) _).drew)
        have HO3 := Lib.hid (show Debt.OwDb (w.heap.size + 2) (we.setCell ⟨b, 4, none⟩ (.int .i64 (bo + un))).drew D2 dq2 left from odb_below HO2.out (show b < w.heap.size + 2 by omega) 4 _)
        generalize (we.setCell ⟨b, 4, none⟩ (.int .i64 (bo + un))).drew = wf at *
        clear CC2 CB2 CZ2 HO2 HB2 g4 k4 p6 lb
        have g2 := (CC3.out.at 2 rfl).1
        have k2 := (CC3.out.at 2 rfl).2
        have lb := CC3.out.1
        have lp := CB3.out.1
        have lz := CZ3.out.1
        have z0 := (CZ3.out.at 0 rfl).1
        have y0 := (CZ3.out.at 0 rfl).2
        have z1 := (CZ3.out.at 1 rfl).1
        have y1 := (CZ3.out.at 1 rfl).2
        have z2 := (CZ3.out.at 2 rfl).1
        have y2 := (CZ3.out.at 2 rfl).2
        have z3 := (CZ3.out.at 3 rfl).1
        have y3 := (CZ3.out.at 3 rfl).2
        have z4 := (CZ3.out.at 4 rfl).1
        have y4 := (CZ3.out.at 4 rfl).2
        have z5 := (CZ3.out.at 5 rfl).1
        have y5 := (CZ3.out.at 5 rfl).2
        have z6 := (CZ3.out.at 6 rfl).1
        have y6 := (CZ3.out.at 6 rfl).2
        have b0 := (CB3.out.at 0 rfl).1
        have b1 := (CB3.out.at 1 rfl).1
        have b2 := (CB3.out.at 2 rfl).1
        have b3 := (CB3.out.at 3 rfl).1
        have b4 := (CB3.out.at 4 rfl).1
        have b5 := (CB3.out.at 5 rfl).1
        have b6 := (CB3.out.at 6 rfl).1
        go_wp2_with fail
        refine bodyPost_ret (v := .tuple #[.agg #[.int .i64 nx, .int .i64 te, .int .i64 paid, .int .i64 fe, .int .i64 pr, .int .i64 (re - pr), .int .i64 un], .int .i64 0]) (by simp [results, Try.results38, go_sem, z0, y0, z1, y1, z2, y2, z3, y3, z4, y4, z5, y5, z6, y6]) rfl ⟨.inr ⟨HUN.out, rfl, D2, dq2, cs_set7 (Cs.put (i := 2) CC3.out (by simp) rfl) nb2 _ _ _ _ _ _ _, ?_⟩, below_set7 (HB3.out.setCell (p := ⟨b, 2, none⟩) (Nat.le_refl _) _) _ (by omega) _ _ _ _ _ _ _⟩
        exact own_less (own_set7 (odb_below HO3.out (show b < w.heap.size + 2 by omega) 2 _) _ (by omega) _ _ _ _ _ _ _) (by omega)
end Go.Proofs.Ytfdgjaahmbjnpaa.Acc
