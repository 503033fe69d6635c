/- Contracts of package account: within, Check. -/
import Derived.Test.YtfdgjaahmbjnpaaTarC
import Derived.Test.YtfdgjaahmbjnpaaTotal
namespace Go.Proofs.Ytfdgjaahmbjnpaa.Acc
open Go.RowKit Go.Proofs.Ytfdgjaahmbjnpaa.Base Go.Proofs.Ytfdgjaahmbjnpaa.Tar
set_option linter.unusedVariables false
set_option linter.unusedSimpArgs false
set_option maxRecDepth 20000
theorem within_any (n lo hi : Int) (w : World) :
    Calls Try.prog 66 #[.int .i64 n, .int .i64 lo, .int .i64 hi] w fun e w' => e = .returned (.bool (decide (lo ≤ n ∧ n ≤ hi))) ∧ w = w' := by
  go_enter Try.func66, Try.ntmps66
  by_cases h1 : lo ≤ n <;> by_cases h2 : n ≤ hi
  all_goals
    go_wp2
    go_ret
    exact ⟨ret_bool (by simp [h1, h2]), rfl⟩
structure Tm where
  fix : Int
  bp : Int
  dbp : Int
  al : Int
def Tm.ok (x : Tm) : Prop := (0 ≤ x.fix ∧ x.fix ≤ 100000) ∧ (0 ≤ x.bp ∧ x.bp ≤ 10000) ∧ (0 ≤ x.dbp ∧ x.dbp ≤ 10000) ∧ 0 ≤ x.al ∧ x.al ≤ 2097151
set_option maxHeartbeats 2000000 in
theorem check_any (ts : List Stp) (A : Option Addr) (q : Nat) (x : Tm) (w : World) (hr : RdE 2 Stp.enc w A ts) (hT : TG 0 ts) (h1 : 1 ≤ ts.length) (h8 : ts.length ≤ 8) (hx : x.ok) :
    Calls Try.prog 65 #[.agg #[.slice A ts.length q, .int .i64 x.fix, .int .i64 x.bp, .int .i64 x.dbp, .int .i64 x.al]] w fun e w' => e = .returned (.int .i64 0) ∧ Below w.heap.size w w' := by
  obtain ⟨fix, bp, dbp, al⟩ := x
  obtain ⟨⟨a0, a1⟩, ⟨b0, b1⟩, ⟨c0, c1⟩, d0, d1⟩ := hx
  simp only at *
  have HR := Lib.hid hr
  have HT := Lib.hid hT
  have W1 := Lib.hid (show decide ((0 : Int) ≤ fix ∧ fix ≤ 100000) = true by rw [decide_eq_true_iff]; exact ⟨a0, a1⟩)
  have W2 := Lib.hid (show decide ((0 : Int) ≤ bp ∧ bp ≤ 10000) = true by rw [decide_eq_true_iff]; exact ⟨b0, b1⟩)
  have W3 := Lib.hid (show decide ((0 : Int) ≤ dbp ∧ dbp ≤ 10000) = true by rw [decide_eq_true_iff]; exact ⟨c0, c1⟩)
  have W4 := Lib.hid (show decide ((0 : Int) ≤ al ∧ al ≤ 2097151) = true by rw [decide_eq_true_iff]; exact ⟨d0, d1⟩)
  clear hr hT a0 a1 b0 b1 c0 c1 d0 d1
  go_enter Try.func65, Try.ntmps65
  go_wp2_with (fail)
  go_at_call 105
  refine (Tar.check_any ts A q _ (HR.out.below (blw_alloc (Below.refl _ _) _)) HT.out h1 h8).mono ?_
  rintro e w1 ⟨rfl, hb⟩
  have hz := hb.size
  simp only [World.size_alloc] at hz
  have Cb := (Cs.new rfl : Cs (w.alloc (.cells #[.slice A ts.length q, .int .i64 fix, .int .i64 bp, .int .i64 dbp, .int .i64 al] 57)) w.heap.size [.slice A ts.length q, .int .i64 fix, .int .i64 bp, .int .i64 dbp, .int .i64 al]).after hb
  have g1 := (Cb.at 1 rfl).1
  have g2 := (Cb.at 2 rfl).1
  have g3 := (Cb.at 3 rfl).1
  have g4 := (Cb.at 4 rfl).1
  have HB := Lib.hid (below_then' (blw_alloc (Below.refl _ _) _) hb)
  clear hb Cb
  go_wp2_with ((go_at_call 66; refine (within_any _ _ _ _).mono ?_; rintro e w' ⟨rfl, rfl⟩; first | rw [W1.out] | rw [W2.out] | rw [W3.out] | rw [W4.out]))
  go_ret
  exact ⟨rfl, HB.out⟩
structure Ac where
  me : Int
  rev : Int
  nx : Int
  mo : Int
  bo : Int
  fr : Int
def Ac.ok (a : Ac) : Prop := (0 ≤ a.me ∧ a.me ≤ 49) ∧ (0 ≤ a.rev ∧ a.rev ≤ 15) ∧ (1 ≤ a.nx ∧ a.nx ≤ 1048576) ∧ (0 ≤ a.mo ∧ a.mo ≤ 2399) ∧ (0 ≤ a.bo ∧ a.bo ≤ 10000000) ∧ -1 ≤ a.fr ∧ a.fr ≤ a.mo
set_option maxHeartbeats 2000000 in
theorem may_any (a : Ac) (ds : List Debt.Db) (A : Option Addr) (q : Nat) (w : World) (hr : RdE 2 Debt.Db.enc w A ds) (hn : ds.length ≤ 8) (hk : ∀ x ∈ ds, x.ok) (ha : a.ok) :
    Calls Try.prog 64 #[.agg #[.int .i64 a.me, .int .i64 a.rev, .int .i64 a.nx, .int .i64 a.mo, .int .i64 a.bo, .int .i64 a.fr, .slice A ds.length q]] w fun e w' => e = .returned (.bool true) ∧ Below w.heap.size w w' := by
  obtain ⟨me, rev, nx, mo, bo, fr⟩ := a
  obtain ⟨⟨a0, a1⟩, ⟨b0, b1⟩, ⟨c0, c1⟩, ⟨d0, d1⟩, ⟨e0, e1⟩, f0, f1⟩ := ha
  simp only at *
  have HR := Lib.hid hr
  have HK := Lib.hid hk
  have W1 := Lib.hid (show decide ((0 : Int) ≤ me ∧ me ≤ 49) = true by rw [decide_eq_true_iff]; exact ⟨a0, a1⟩)
  have W2 := Lib.hid (show decide ((0 : Int) ≤ rev ∧ rev ≤ 15) = true by rw [decide_eq_true_iff]; exact ⟨b0, b1⟩)
  have W3 := Lib.hid (show decide ((1 : Int) ≤ nx ∧ nx ≤ 1048576) = true by rw [decide_eq_true_iff]; exact ⟨c0, c1⟩)
  have W4 := Lib.hid (show decide ((0 : Int) ≤ mo ∧ mo ≤ 2399) = true by rw [decide_eq_true_iff]; exact ⟨d0, d1⟩)
  have W5 := Lib.hid (show decide ((0 : Int) ≤ bo ∧ bo ≤ 10000000) = true by rw [decide_eq_true_iff]; exact ⟨e0, e1⟩)
  have W6 := Lib.hid (show decide ((-1 : Int) ≤ fr ∧ fr ≤ mo) = true by rw [decide_eq_true_iff]; exact ⟨f0, f1⟩)
  clear hr hk a0 a1 b0 b1 c0 c1 d0 d1 e0 e1 f0 f1
  go_enter Try.func64, Try.ntmps64
  go_wp2_with (fail)
  go_at_call 104
  refine (Debt.Total_any ds A q _ (HR.out.below (blw_alloc (Below.refl _ _) _)) hn HK.out).mono ?_
  rintro e w1 ⟨rfl, hb⟩
  have hz := hb.size
  simp only [World.size_alloc] at hz
  have Cb := (Cs.new rfl : Cs (w.alloc (.cells #[.int .i64 me, .int .i64 rev, .int .i64 nx, .int .i64 mo, .int .i64 bo, .int .i64 fr, .slice A ds.length q] 53)) w.heap.size [.int .i64 me, .int .i64 rev, .int .i64 nx, .int .i64 mo, .int .i64 bo, .int .i64 fr, .slice A ds.length q]).after hb
  have g0 := (Cb.at 0 rfl).1
  have g1 := (Cb.at 1 rfl).1
  have g2 := (Cb.at 2 rfl).1
  have g3 := (Cb.at 3 rfl).1
  have g4 := (Cb.at 4 rfl).1
  have g5 := (Cb.at 5 rfl).1
  have HB := Lib.hid (below_then' (blw_alloc (Below.refl _ _) _) hb)
  clear hb Cb
  go_wp2_with ((go_at_call 66; refine (within_any _ _ _ _).mono ?_; rintro e w' ⟨rfl, rfl⟩; first | rw [W1.out] | rw [W2.out] | rw [W3.out] | rw [W4.out] | rw [W5.out] | rw [W6.out]))
  go_ret
  exact ⟨rfl, HB.out⟩
set_option maxHeartbeats 4000000 in
theorem open_any (a : Ac) (ds : List Debt.Db) (A : Option Addr) (q : Nat) (ts : List Stp) (T : Option Addr) (tq : Nat) (x : Tm) (w : World) (hr : RdE 2 Debt.Db.enc w A ds) (hn : ds.length ≤ 8) (hk : ∀ x ∈ ds, x.ok) (hA : A = none → ds = [] ∧ q = 0) (ha : a.ok) (ht : RdE 2 Stp.enc w T ts) (hT : TG 0 ts) (h1 : 1 ≤ ts.length) (h8 : ts.length ≤ 8) (hx : x.ok) :
    Calls Try.prog 36 #[.agg #[.int .i64 a.me, .int .i64 a.rev, .int .i64 a.nx, .int .i64 a.mo, .int .i64 a.bo, .int .i64 a.fr, .slice A ds.length q], .agg #[.slice T ts.length tq, .int .i64 x.fix, .int .i64 x.bp, .int .i64 x.dbp, .int .i64 x.al]] w fun e w' => ∃ b D dq, e = .returned (.tuple #[.pointer (some ⟨b, 0, none⟩), .int .i64 0]) ∧ w.heap.size ≤ b ∧ Cs w' b [.int .i64 a.me, .int .i64 a.rev, .int .i64 a.nx, .int .i64 a.mo, .int .i64 a.bo, .int .i64 a.fr, .slice D ds.length dq, .slice T ts.length tq, .int .i64 x.fix, .int .i64 x.bp, .int .i64 x.dbp, .int .i64 x.al] ∧ Debt.OwDb (w.heap.size + 1) w' D dq ds ∧ Below w.heap.size w w' := by
  have HM := Lib.hid (fun w h => may_any a ds A q w h hn hk ha)
  have HC := Lib.hid (fun w h => check_any ts T tq x w h hT h1 h8 hx)
  obtain ⟨me, rev, nx, mo, bo, fr⟩ := a
  obtain ⟨fix, bp, dbp, al⟩ := x
  simp only at *
  have HX := Lib.hid hr
  have HT := Lib.hid ht
  have HA := Lib.hid hA
  clear hr ht hA ha hx hk hT
  go_enter Try.func36, Try.ntmps36
  go_wp2_with (fail)
  go_at_call 64
  refine (HM.out _ (HX.out.below (blw_alloc (blw_alloc (Below.refl _ _) _) _))).mono ?_
  rintro e w1 ⟨rfl, hb⟩
  have hz1 := hb.size
  simp only [World.size_alloc] at hz1
  have CA := Lib.hid (((Cs.new rfl : Cs (w.alloc (.cells #[.int .i64 me, .int .i64 rev, .int .i64 nx, .int .i64 mo, .int .i64 bo, .int .i64 fr, .slice A ds.length q] 53)) w.heap.size [.int .i64 me, .int .i64 rev, .int .i64 nx, .int .i64 mo, .int .i64 bo, .int .i64 fr, .slice A ds.length q]).alloc _).after hb)
  have hs0 : (w.alloc (.cells #[.int .i64 me, .int .i64 rev, .int .i64 nx, .int .i64 mo, .int .i64 bo, .int .i64 fr, .slice A ds.length q] 53)).heap.size = w.heap.size + 1 := World.size_alloc _ _
  have CT := Lib.hid (show Cs w1 (w.heap.size + 1) [.slice T ts.length tq, .int .i64 fix, .int .i64 bp, .int .i64 dbp, .int .i64 al] from (show Cs ((w.alloc (.cells #[.int .i64 me, .int .i64 rev, .int .i64 nx, .int .i64 mo, .int .i64 bo, .int .i64 fr, .slice A ds.length q] 53)).alloc (.cells #[.slice T ts.length tq, .int .i64 fix, .int .i64 bp, .int .i64 dbp, .int .i64 al] 57)) (w.heap.size + 1) [.slice T ts.length tq, .int .i64 fix, .int .i64 bp, .int .i64 dbp, .int .i64 al] from Cs.new hs0.symm).after hb)
  have HB1 := Lib.hid (below_then' (blw_alloc (blw_alloc (Below.refl _ _) _) _) hb)
  clear hb hs0
  have t0 := (CT.out.at 0 rfl).1
  have t1 := (CT.out.at 1 rfl).1
  have t2 := (CT.out.at 2 rfl).1
  have t3 := (CT.out.at 3 rfl).1
  have t4 := (CT.out.at 4 rfl).1
  go_wp2_with (fail)
  go_at_call 65
  refine (HC.out _ (HT.out.below HB1.out)).mono ?_
  rintro e w2 ⟨rfl, hb⟩
  have hz2 := hb.size
  have CA2 := Lib.hid (CA.out.after hb)
  have CT2 := Lib.hid (CT.out.after hb)
  have HB2 := Lib.hid (below_then' HB1.out hb)
  clear hb t0 t1 t2 t3 t4
  have lA := CA2.out.1
  have lT := CT2.out.1
  have c6 := (CA2.out.at 6 rfl).1
  have f6 := (CA2.out.at 6 rfl).2
  go_wp2_with (at_builtin; refine appN (w0 := w2) (enc := Debt.Db.enc) w2.heap.size rfl (.const (.slice none 0 0)) (.tmp 16) 51 122 (.agg #[.int .i64 0, .int .i64 0]) 2 16 rfl Try.underlying51 Debt.info_db rfl (by decide) (by decide) _ _ _ ds A q rfl rfl HA.out (fun _ => rfl) (HX.out.below HB2.out) (by intro x u hu; simp [Debt.Db.enc] at hu; rcases hu with rfl | rfl <;> rfl) (World.ownsRow_nil _ _ _ _) (Below.refl _ _) (Nat.le_refl _) ?c1 ?_; (case c1 => omega); intro v1 w3 ho2 hb2 hgr; obtain ⟨D, dq, rfl, ho3⟩ := Debt.OwDb.of (xs := ds) ho2 (by simp) (by simp); have hgb : Below w2.heap.size w2 w3 := ⟨hgr.os, hgr.tape, hgr.output, hgr.size, fun j hj => hgr.block j hj (by intro h; cases h)⟩; have HO3 := Lib.hid ho3; have HB3 := Lib.hid (below_then' HB2.out hb2); have CA3 := Lib.hid (CA2.out.after hgb); have CT3 := Lib.hid (CT2.out.after hgb); clear ho2 ho3 hb2 hgr hgb c6 f6; have a0 := (CA3.out.at 0 rfl).1; have a1 := (CA3.out.at 1 rfl).1; have a2 := (CA3.out.at 2 rfl).1; have a3 := (CA3.out.at 3 rfl).1; have a4 := (CA3.out.at 4 rfl).1; have a5 := (CA3.out.at 5 rfl).1; have a6 := (CA3.out.at 6 rfl).1; have f6 := (CA3.out.at 6 rfl).2; have t0 := (CT3.out.at 0 rfl).1; have t1 := (CT3.out.at 1 rfl).1; have t2 := (CT3.out.at 2 rfl).1; have t3 := (CT3.out.at 3 rfl).1; have t4 := (CT3.out.at 4 rfl).1; have nm1 : w.heap.size + 1 ≠ w.heap.size := (by omega); have nm2 : w.heap.size ≠ w.heap.size + 1 := (by omega); have l3 := CA3.out.1)
  go_ret2
  refine ⟨w3.heap.size, D, dq, rfl, by have := HB3.out.size; omega, Cs.new (by simp), ?_, blw_alloc (HB3.out.setCell (p := ⟨w.heap.size, 6, none⟩) (Nat.le_refl _) _) _⟩
  exact (ownsRow_setCell_below (a := ⟨w.heap.size, 6, none⟩) (own_less HO3.out (show w.heap.size + 1 ≤ w2.heap.size by omega)) (show w.heap.size < w.heap.size + 1 by omega) _).alloc _
end Go.Proofs.Ytfdgjaahmbjnpaa.Acc
