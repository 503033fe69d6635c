/- The contract of account.Grant. -/
import Derived.Test.YtjfjmlcibhdilaaSell2
namespace Go.Proofs.Ytjfjmlcibhdilaa.Acc
open Go.RowKit Go.Proofs.Ytjfjmlcibhdilaa.Base Go.Proofs.Ytjfjmlcibhdilaa.Tar
set_option linter.unusedVariables false
set_option linter.unusedSimpArgs false
set_option maxRecDepth 20000
def grantA (b : Ac) (m : Int) : Ac := { b with fr := m, nx := b.nx + 1 }
set_option maxHeartbeats 8000000 in
theorem Grant_any (a : Ac) (ds : List Debt.Db) (A : Option Addr) (q : Nat) (ts : List Stp) (T : Option Addr) (tq : Nat) (x : Tm) (month : Int) (w : World) (hr : RdE 2 Debt.Db.enc w A ds) (hn : ds.length ≤ 8) (hk : ∀ x ∈ ds, x.ok) (hA : A = none → ds = [] ∧ q = 0) (ha : a.ok) (ht : RdE 2 Stp.enc w T ts) (hG : TG 0 ts) (h1 : 1 ≤ ts.length) (h8 : ts.length ≤ 8) (hx : x.ok) (hal : 1 ≤ x.al)
    (m0 : a.mo ≤ month) (m1 : month ≤ 2399) (hnx : a.nx ≤ 1048575) (b : Ac) (hb : b = rollA a month) (es : List Debt.Db) (he : es = Debt.ageL (month - a.mo).toNat ds) :
    Calls Try.prog 20 #[.agg #[.int .i64 a.me, .int .i64 a.rev, .int .i64 a.nx, .int .i64 a.mo, .int .i64 a.bo, .int .i64 a.fr, .slice A ds.length q], .agg #[.slice T ts.length tq, .int .i64 x.fix, .int .i64 x.bp, .int .i64 x.dbp, .int .i64 x.al], .int .i64 month] w fun e w' =>
      ((b.fr = month ∧ e = .returned (.tuple #[.agg #[.int .i64 0, .int .i64 0, .int .i64 0, .int .i64 0, .int .i64 0, .int .i64 0, .slice none 0 0], .agg #[.int .i64 0, .int .i64 0, .int .i64 0, .int .i64 0, .int .i64 0, .int .i64 0, .int .i64 0], .int .i64 21])) ∨ (b.fr ≠ month ∧ ∃ D dq, e = .returned (.tuple #[.agg #[.int .i64 b.me, .int .i64 b.rev, .int .i64 (b.nx + 1), .int .i64 b.mo, .int .i64 b.bo, .int .i64 month, .slice D es.length dq], .agg #[.int .i64 b.nx, .int .i64 0, .int .i64 0, .int .i64 0, .int .i64 0, .int .i64 0, .int .i64 x.al], .int .i64 0]) ∧ Debt.OwDb w.heap.size w' D dq es)) ∧ Below w.heap.size w w' := by
  have a0 := ha.2.2.2.1.1
  have HO := Lib.hid (fun W hrd ht => open_own a ds A q ts T tq x W hrd hn hk hA ha ht hG h1 h8 hx)
  have HL := Lib.hid (fun b D dq T tl tq B0 W hc hD hB => roll_own a ds D dq T tl tq x month b B0 W hc hD hB a0 m0 m1 hn hk)
  rw [← hb, ← he] at HL
  have hbn : b.nx ≤ 1048575 := by rw [hb]; exact hnx
  have hbn0 : 1 ≤ b.nx := by rw [hb]; exact ha.2.2.1.1
  have HR := Lib.hid hr
  have HT := Lib.hid ht
  have hxa := hx.2.2.2.2
  clear hr ha ht hG hx hb he hk
  unfold clk at HL
  obtain ⟨me, rev, nx, mo, bo, fr⟩ := a
  obtain ⟨fix, bp, dbp, al⟩ := x
  obtain ⟨c0, c1, c2, c3, c4, c5⟩ := b
  simp only at *
  have w2 : IntKind.i64.wrap (c2 + 1) = c2 + 1 := Base.wrap64 _ (by omega) (by omega)
  go_enter Try.func20, Try.ntmps20
  go_wp2_with (fail)
  go_at_call 40
  refine (HO.out _ (HR.out.below (by repeat (first | with_reducible exact Below.refl _ _ | with_reducible refine Base.blw_alloc ?_ _ | with_reducible refine Below.drew ?_))) (HT.out.below (by repeat (first | with_reducible exact Below.refl _ _ | with_reducible refine Base.blw_alloc ?_ _ | with_reducible refine Below.drew ?_)))).mono ?_
  rintro e w1 ⟨p, D, dq, rfl, hpl, hcs, hod, hfar, hb⟩
  have HF1 := Lib.hid hfar
  clear hfar
  have HB1 : Hid (Below w.heap.size w w1) := Lib.hid (below_then' (by repeat (first | with_reducible exact Below.refl _ _ | with_reducible refine Base.blw_alloc ?_ _ | with_reducible refine Below.drew ?_)) hb)
  have CT1 := Lib.hid ((show Cs _ (w.heap.size + 1) [.slice T ts.length tq, .int .i64 fix, .int .i64 bp, .int .i64 dbp, .int .i64 al] from (by (repeat (first | (with_reducible refine Cs.new ?_; focus (first | rfl | (simp; done) | omega)) | with_reducible refine Cs.alloc ?_ _ | with_reducible refine Cs.drew ?_ | with_reducible refine Cs.drewN ?_ _ | (with_reducible refine Cs.other ?_ ?_ _; focus (first | omega | (simp; omega))) | with_reducible apply Cs.put)) <;> first | rfl | (simp; done))).after hb)
  have CA1 := Lib.hid ((show Cs _ (w.heap.size + 1 + 1) [.int .i64 0, .int .i64 0, .int .i64 0, .int .i64 0, .int .i64 0, .int .i64 0, .slice none 0 0] from (by (repeat (first | (with_reducible refine Cs.new ?_; focus (first | rfl | (simp; done) | omega)) | with_reducible refine Cs.alloc ?_ _ | with_reducible refine Cs.drew ?_ | with_reducible refine Cs.drewN ?_ _ | (with_reducible refine Cs.other ?_ ?_ _; focus (first | omega | (simp; omega))) | with_reducible apply Cs.put)) <;> first | rfl | (simp; done))).after hb)
  have CB1 := Lib.hid ((show Cs _ (w.heap.size + 1 + 1 + 1) [.int .i64 0, .int .i64 0, .int .i64 0, .int .i64 0, .int .i64 0, .int .i64 0, .int .i64 0] from (by (repeat (first | (with_reducible refine Cs.new ?_; focus (first | rfl | (simp; done) | omega)) | with_reducible refine Cs.alloc ?_ _ | with_reducible refine Cs.drew ?_ | with_reducible refine Cs.drewN ?_ _ | (with_reducible refine Cs.other ?_ ?_ _; focus (first | omega | (simp; omega))) | with_reducible apply Cs.put)) <;> first | rfl | (simp; done))).after hb)
  simp only [World.size_alloc] at hpl hod
  have lp := hcs.1
  have HC1 := Lib.hid hcs
  have HD1 := Lib.hid hod
  clear hb hcs hod
  go_wp2_with (fail)
  go_at_call 41
  refine (HL.out p D dq T ts.length tq _ w1 HC1.out HD1.out (by omega)).mono ?_
  rintro e w2 ⟨rfl, D2, dq2, hcs, hod, hfar, hb⟩
  have HF2 := Lib.hid (hfar HF1.out)
  clear hfar
  have HB2 := Lib.hid (HB1.out.trans (hb.mono (show w.heap.size ≤ p by omega)))
  have CT2 := Lib.hid (CT1.out.below hb (by omega))
  have CA2 := Lib.hid (CA1.out.below hb (by omega))
  have CB2 := Lib.hid (CB1.out.below hb (by omega))
  have HC2 := Lib.hid hcs
  have HD2 := Lib.hid hod
  have lp2 := hcs.1
  have lT := CT2.out.1
  have lA := CA2.out.1
  have lB := CB2.out.1
  have nAB : w.heap.size + 1 + 1 ≠ w.heap.size + 1 + 1 + 1 := by omega
  have nBA : w.heap.size + 1 + 1 + 1 ≠ w.heap.size + 1 + 1 := by omega
  have nAp : w.heap.size + 1 + 1 ≠ p := by omega
  have npA : p ≠ w.heap.size + 1 + 1 := by omega
  have nBp : w.heap.size + 1 + 1 + 1 ≠ p := by omega
  have npB : p ≠ w.heap.size + 1 + 1 + 1 := by omega
  have nTp : w.heap.size + 1 ≠ p := by omega
  have npT : p ≠ w.heap.size + 1 := by omega
  have nTA : w.heap.size + 1 ≠ w.heap.size + 1 + 1 := by omega
  have nTB : w.heap.size + 1 ≠ w.heap.size + 1 + 1 + 1 := by omega
  clear hb hcs hod
  have za0 := (CA2.out.at 0 rfl).1
  have ya0 := (CA2.out.at 0 rfl).2
  have zb0 := (CB2.out.at 0 rfl).1
  have yb0 := (CB2.out.at 0 rfl).2
  have za1 := (CA2.out.at 1 rfl).1
  have ya1 := (CA2.out.at 1 rfl).2
  have zb1 := (CB2.out.at 1 rfl).1
  have yb1 := (CB2.out.at 1 rfl).2
  have za2 := (CA2.out.at 2 rfl).1
  have ya2 := (CA2.out.at 2 rfl).2
  have zb2 := (CB2.out.at 2 rfl).1
  have yb2 := (CB2.out.at 2 rfl).2
  have za3 := (CA2.out.at 3 rfl).1
  have ya3 := (CA2.out.at 3 rfl).2
  have zb3 := (CB2.out.at 3 rfl).1
  have yb3 := (CB2.out.at 3 rfl).2
  have za4 := (CA2.out.at 4 rfl).1
  have ya4 := (CA2.out.at 4 rfl).2
  have zb4 := (CB2.out.at 4 rfl).1
  have yb4 := (CB2.out.at 4 rfl).2
  have za5 := (CA2.out.at 5 rfl).1
  have ya5 := (CA2.out.at 5 rfl).2
  have zb5 := (CB2.out.at 5 rfl).1
  have yb5 := (CB2.out.at 5 rfl).2
  have za6 := (CA2.out.at 6 rfl).1
  have ya6 := (CA2.out.at 6 rfl).2
  have zb6 := (CB2.out.at 6 rfl).1
  have yb6 := (CB2.out.at 6 rfl).2
  have ta4 := (CT2.out.at 4 rfl).1
  have pc0 := (HC2.out.at 0 rfl).1
  have pf0 := (HC2.out.at 0 rfl).2
  have pc1 := (HC2.out.at 1 rfl).1
  have pf1 := (HC2.out.at 1 rfl).2
  have pc2 := (HC2.out.at 2 rfl).1
  have pf2 := (HC2.out.at 2 rfl).2
  have pc3 := (HC2.out.at 3 rfl).1
  have pf3 := (HC2.out.at 3 rfl).2
  have pc4 := (HC2.out.at 4 rfl).1
  have pf4 := (HC2.out.at 4 rfl).2
  have pc5 := (HC2.out.at 5 rfl).1
  have pf5 := (HC2.out.at 5 rfl).2
  have pc6 := (HC2.out.at 6 rfl).1
  have pf6 := (HC2.out.at 6 rfl).2
  have hal2 : (al == 0) = false := beq_eq_false_iff_ne.mpr (by omega)
  by_cases hfr : c5 = month
  · have t1 : (c5 == month) = true := by simp [hfr]
    have HF := Lib.hid hfr
    clear hfr
    go_wp2_with (fail)
    refine bodyPost_ret (v := .tuple #[.agg #[.int .i64 0, .int .i64 0, .int .i64 0, .int .i64 0, .int .i64 0, .int .i64 0, .slice none 0 0], .agg #[.int .i64 0, .int .i64 0, .int .i64 0, .int .i64 0, .int .i64 0, .int .i64 0, .int .i64 0], .int .i64 21]) (by simp [results, Try.results20, go_sem, za0, ya0, zb0, yb0, za1, ya1, zb1, yb1, za2, ya2, zb2, yb2, za3, ya3, zb3, yb3, za4, ya4, zb4, yb4, za5, ya5, zb5, yb5, za6, ya6, zb6, yb6]) rfl ⟨.inl ⟨HF.out, rfl⟩, below_set7 (below_set7 HB2.out _ (by omega) _ _ _ _ _ _ _) _ (by omega) _ _ _ _ _ _ _⟩
  · have t1 : (c5 == month) = false := by simp [hfr]
    have t2 : ¬ 1048575 < c2 := by omega
    have HF := Lib.hid hfr
    clear hfr
    go_wp2_with (fail)
    have HB3 := Lib.hid ((HB2.out.setCell (p := ⟨p, 5, none⟩) (show w.heap.size ≤ p by omega) (.int .i64 month)).setCell (p := ⟨p, 2, none⟩) (show w.heap.size ≤ p by omega) (.int .i64 (c2 + 1)))
    have CA3 := Lib.hid (Cs.other (a := ⟨p, 2, none⟩) npA (Cs.other (a := ⟨p, 5, none⟩) npA CA2.out (.int .i64 month)) (.int .i64 (c2 + 1)))
    have CB3 := Lib.hid (Cs.other (a := ⟨p, 2, none⟩) npB (Cs.other (a := ⟨p, 5, none⟩) npB CB2.out (.int .i64 month)) (.int .i64 (c2 + 1)))
    have CT3 := Lib.hid (Cs.other (a := ⟨p, 2, none⟩) npT (Cs.other (a := ⟨p, 5, none⟩) npT CT2.out (.int .i64 month)) (.int .i64 (c2 + 1)))
    have HC3 := Lib.hid (show Cs ((w2.setCell ⟨p, 5, none⟩ (.int .i64 month)).setCell ⟨p, 2, none⟩ (.int .i64 (c2 + 1))) p [.int .i64 c0, .int .i64 c1, .int .i64 (c2 + 1), .int .i64 c3, .int .i64 c4, .int .i64 month, .slice D2 es.length dq2, .slice T ts.length tq, .int .i64 fix, .int .i64 bp, .int .i64 dbp, .int .i64 al] from Cs.put (i := 2) (Cs.put (i := 5) HC2.out (by simp) rfl) (by simp) rfl)
    have HD3 := Lib.hid (odb_set (odb_set HD2.out HF2.out 5 (.int .i64 month)) HF2.out 2 (.int .i64 (c2 + 1)))
    generalize (w2.setCell ⟨p, 5, none⟩ (.int .i64 month)).setCell ⟨p, 2, none⟩ (.int .i64 (c2 + 1)) = w3 at *
    clear za0 ya0 zb0 yb0 pc0 pf0 za1 ya1 zb1 yb1 pc1 pf1 za2 ya2 zb2 yb2 pc2 pf2 za3 ya3 zb3 yb3 pc3 pf3 za4 ya4 zb4 yb4 pc4 pf4 za5 ya5 zb5 yb5 pc5 pf5 za6 ya6 zb6 yb6 pc6 pf6 ta4 lp lp2 lA lB lT
    have lp3 := HC3.out.1
    have lA := CA3.out.1
    have lB := CB3.out.1
    have lT := CT3.out.1
    have za0 := (CA3.out.at 0 rfl).1
    have ya0 := (CA3.out.at 0 rfl).2
    have zb0 := (CB3.out.at 0 rfl).1
    have yb0 := (CB3.out.at 0 rfl).2
    have za1 := (CA3.out.at 1 rfl).1
    have ya1 := (CA3.out.at 1 rfl).2
    have zb1 := (CB3.out.at 1 rfl).1
    have yb1 := (CB3.out.at 1 rfl).2
    have za2 := (CA3.out.at 2 rfl).1
    have ya2 := (CA3.out.at 2 rfl).2
    have zb2 := (CB3.out.at 2 rfl).1
    have yb2 := (CB3.out.at 2 rfl).2
    have za3 := (CA3.out.at 3 rfl).1
    have ya3 := (CA3.out.at 3 rfl).2
    have zb3 := (CB3.out.at 3 rfl).1
    have yb3 := (CB3.out.at 3 rfl).2
    have za4 := (CA3.out.at 4 rfl).1
    have ya4 := (CA3.out.at 4 rfl).2
    have zb4 := (CB3.out.at 4 rfl).1
    have yb4 := (CB3.out.at 4 rfl).2
    have za5 := (CA3.out.at 5 rfl).1
    have ya5 := (CA3.out.at 5 rfl).2
    have zb5 := (CB3.out.at 5 rfl).1
    have yb5 := (CB3.out.at 5 rfl).2
    have za6 := (CA3.out.at 6 rfl).1
    have ya6 := (CA3.out.at 6 rfl).2
    have zb6 := (CB3.out.at 6 rfl).1
    have yb6 := (CB3.out.at 6 rfl).2
    have ta4 := (CT3.out.at 4 rfl).1
    have pc0 := (HC3.out.at 0 rfl).1
    have pc1 := (HC3.out.at 1 rfl).1
    have pc2 := (HC3.out.at 2 rfl).1
    have pc3 := (HC3.out.at 3 rfl).1
    have pc4 := (HC3.out.at 4 rfl).1
    have pc5 := (HC3.out.at 5 rfl).1
    have pc6 := (HC3.out.at 6 rfl).1
    go_region
    go_wp2_with fail
    refine bodyPost_ret (v := .tuple #[.agg #[.int .i64 c0, .int .i64 c1, .int .i64 (c2 + 1), .int .i64 c3, .int .i64 c4, .int .i64 month, .slice D2 es.length dq2], .agg #[.int .i64 c2, .int .i64 0, .int .i64 0, .int .i64 0, .int .i64 0, .int .i64 0, .int .i64 al], .int .i64 0]) (by simp [results, Try.results20, go_sem, za0, ya0, zb0, yb0, za1, ya1, zb1, yb1, za2, ya2, zb2, yb2, za3, ya3, zb3, yb3, za4, ya4, zb4, yb4, za5, ya5, zb5, yb5, za6, ya6, zb6, yb6]) rfl ⟨.inr ⟨HF.out, D2, dq2, rfl, ?_⟩, (below_set7 (below_set7 HB3.out _ (by omega) _ _ _ _ _ _ _) _ (by omega) _ _ _ _ _ _ _).drew⟩
    exact odb_drew (odb_set7 (odb_set7 HD3.out (by omega) (Nat.le_refl _) _ _ _ _ _ _ _) (by omega) (by omega) _ _ _ _ _ _ _)
end Go.Proofs.Ytjfjmlcibhdilaa.Acc
