/- The contract of account.Sell. -/
import Derived.Test.YtfdgjaahmbjnpaaSell
namespace Go.Proofs.Ytfdgjaahmbjnpaa.Acc
open Go.RowKit Go.Proofs.Ytfdgjaahmbjnpaa.Base Go.Proofs.Ytfdgjaahmbjnpaa.Tar
set_option linter.unusedVariables false
set_option linter.unusedSimpArgs false
set_option maxRecDepth 20000
theorem age_len (m : Nat) (ds : List Debt.Db) : (Debt.ageL m ds).length = ds.length := by simp [Debt.ageL]
theorem age_ok (m : Nat) (ds : List Debt.Db) (h : ∀ x ∈ ds, x.ok) : ∀ x ∈ Debt.ageL m ds, x.ok := by
  intro x hx
  obtain ⟨y, hy, rfl⟩ := List.mem_map.1 hx
  exact Debt.ageN_ok m y (h y hy)
theorem roll_ok (a : Ac) (m : Int) (ha : a.ok) (h1 : a.mo ≤ m) (h2 : m ≤ 2399) : (rollA a m).ok := by
  obtain ⟨q1, q2, q3, q4, q5, q6, q7⟩ := ha
  unfold rollA Ac.ok
  simp only
  split <;> omega
/-- open, then roll: a clerk at the month. -/
theorem open_roll (a : Ac) (ds : List Debt.Db) (A : Option Addr) (q : Nat) (ts : List Stp) (T : Option Addr) (tq : Nat) (x : Tm) (w : World) (hr : RdE 2 Debt.Db.enc w A ds) (hn : ds.length ≤ 8) (hk : ∀ x ∈ ds, x.ok) (hA : A = none → ds = [] ∧ q = 0) (ha : a.ok) (ht : RdE 2 Stp.enc w T ts) (hG : TG 0 ts) (h1 : 1 ≤ ts.length) (h8 : ts.length ≤ 8) (hx : x.ok) :
    Calls Try.prog 36 #[.agg #[.int .i64 a.me, .int .i64 a.rev, .int .i64 a.nx, .int .i64 a.mo, .int .i64 a.bo, .int .i64 a.fr, .slice A ds.length q], .agg #[.slice T ts.length tq, .int .i64 x.fix, .int .i64 x.bp, .int .i64 x.dbp, .int .i64 x.al]] w fun e w' => ∃ b D dq, e = .returned (.tuple #[.pointer (some ⟨b, 0, none⟩), .int .i64 0]) ∧ w.heap.size ≤ b ∧ Cs w' b (clk a D ds.length dq T ts.length tq x) ∧ Debt.OwDb (w.heap.size + 1) w' D dq ds ∧ Below w.heap.size w w' :=
  open_any a ds A q ts T tq x w hr hn hk hA ha ht hG h1 h8 hx
theorem tariff_low {w : World} {T : Option Addr} {ts : List Stp} (h : RdE 2 Stp.enc w T ts) (h1 : 1 ≤ ts.length) : ∀ ad, T = some ad → ad.block < w.heap.size := by
  intro ad e
  obtain ⟨ad2, e2, hc, _⟩ := h.at2 0 (by omega) _ _ rfl
  rw [e] at e2
  cases e2
  have := World.block_lt_of_cell? w _ hc
  simpa [add_block] using this
theorem odb_drew {B0 : Nat} {w : World} {A : Option Addr} {c : Nat} {xs : List Debt.Db} (h : Debt.OwDb B0 w A c xs) : Debt.OwDb B0 w.drew A c xs := h
set_option maxHeartbeats 8000000 in
theorem Sell_any (a : Ac) (ds : List Debt.Db) (A : Option Addr) (q : Nat) (ts : List Stp) (T : Option Addr) (tq : Nat) (x : Tm) (te month : Int) (w : World) (hr : RdE 2 Debt.Db.enc w A ds) (hn : ds.length ≤ 8) (hk : ∀ x ∈ ds, x.ok) (hA : A = none → ds = [] ∧ q = 0) (ha : a.ok) (ht : RdE 2 Stp.enc w T ts) (hG : TG 0 ts) (h1 : 1 ≤ ts.length) (h8 : ts.length ≤ 8) (hx : x.ok)
    (m0 : a.mo ≤ month) (m1 : month ≤ 2399) (hnx : a.nx ≤ 1048575) (t0 : 1 ≤ te) (t1 : te ≤ 100000000) (b : Ac) (hb : b = rollA a month) (es : List Debt.Db) (he : es = Debt.ageL (month - a.mo).toNat ds) (u : Int) (hu : u = (sellU b es ts x te).1) (B : Bl) (hB : B = sellB b es ts x te) (c : Ac) (hc : c = sellA b es ts x te) (fs : List Debt.Db) (hf : fs = (sellD es x te).1) :
    Calls Try.prog 17 #[.agg #[.int .i64 a.me, .int .i64 a.rev, .int .i64 a.nx, .int .i64 a.mo, .int .i64 a.bo, .int .i64 a.fr, .slice A ds.length q], .agg #[.slice T ts.length tq, .int .i64 x.fix, .int .i64 x.bp, .int .i64 x.dbp, .int .i64 x.al], .int .i64 te, .int .i64 month] w fun e w' =>
      ((u = 0 ∧ e = .returned (.tuple #[.agg #[.int .i64 0, .int .i64 0, .int .i64 0, .int .i64 0, .int .i64 0, .int .i64 0, .slice none 0 0], .agg #[.int .i64 0, .int .i64 0, .int .i64 0, .int .i64 0, .int .i64 0, .int .i64 0, .int .i64 0], .int .i64 19])) ∨ (u ≠ 0 ∧ ∃ D dq, e = .returned (.tuple #[.agg #[.int .i64 c.me, .int .i64 c.rev, .int .i64 c.nx, .int .i64 c.mo, .int .i64 c.bo, .int .i64 c.fr, .slice D fs.length dq], .agg B.vals.toArray, .int .i64 0]) ∧ Debt.OwDb w.heap.size w' D dq fs)) ∧ Below w.heap.size w w' := by
  have a0 := ha.2.2.2.1.1
  have HO := Lib.hid (fun W hrd ht => open_roll a ds A q ts T tq x W hrd hn hk hA ha ht hG h1 h8 hx)
  have HL := Lib.hid (fun b D dq T tl tq B0 W hc hD hB => roll_any a ds D dq T tl tq x month b B0 W hc hD hB a0 m0 m1 hn hk)
  rw [← hb, ← he] at HL
  have hbo : b.ok := by rw [hb]; exact roll_ok a month ha m0 m1
  have hbn : b.nx ≤ 1048575 := by rw [hb]; exact hnx
  have hen : es.length ≤ 8 := by rw [he, age_len]; exact hn
  have hek : ∀ x ∈ es, x.ok := by rw [he]; exact age_ok _ _ hk
  have HS := Lib.hid (fun b' D dq T tq B0 W hc hD hB hT hTb => sell_any b es D dq T tq x ts te b' B0 W hc hD hB hT hTb hG h1 h8 hx hbo hbn t0 t1 hen hek)
  rw [← hu, ← hB, ← hc, ← hf] at HS
  have HR := Lib.hid hr
  have HT := Lib.hid ht
  have HTB := Lib.hid (tariff_low ht h1)
  clear hr ha ht hG hx hb he hu hB hc hf hek hbo hk
  obtain ⟨me, rev, nx, mo, bo, fr⟩ := a
  obtain ⟨fix, bp, dbp, al⟩ := x
  obtain ⟨v0, v1, v2, v3, v4, v5, v6⟩ := B
  unfold Bl.vals at HS ⊢
  unfold clk at HO HL HS
  simp only at *
  go_enter Try.func17, Try.ntmps17
  go_wp2_with (fail)
  go_at_call 36
  refine (HO.out _ (HR.out.below (by repeat (first | with_reducible exact Below.refl _ _ | with_reducible refine Base.blw_alloc ?_ _ | with_reducible refine Below.drew ?_))) (HT.out.below (by repeat (first | with_reducible exact Below.refl _ _ | with_reducible refine Base.blw_alloc ?_ _ | with_reducible refine Below.drew ?_)))).mono ?_
  rintro e w1 ⟨p, D, dq, rfl, hpl, hcs, hod, hb⟩
  have HB1 : Hid (Below w.heap.size w w1) := Lib.hid (below_then' (by repeat (first | with_reducible exact Below.refl _ _ | with_reducible refine Base.blw_alloc ?_ _ | with_reducible refine Below.drew ?_)) hb)
  have CA1 := Lib.hid ((show Cs _ (w.heap.size + 1 + 1) [.int .i64 0, .int .i64 0, .int .i64 0, .int .i64 0, .int .i64 0, .int .i64 0, .slice none 0 0] from (by (repeat (first | (with_reducible refine Cs.new ?_; focus (first | rfl | (simp; done) | omega)) | with_reducible refine Cs.alloc ?_ _ | with_reducible refine Cs.drew ?_ | with_reducible refine Cs.drewN ?_ _ | (with_reducible refine Cs.other ?_ ?_ _; focus (first | omega | (simp; omega))) | with_reducible apply Cs.put)) <;> first | rfl | (simp; done))).after hb)
  have CB1 := Lib.hid ((show Cs _ (w.heap.size + 1 + 1 + 1) [.int .i64 0, .int .i64 0, .int .i64 0, .int .i64 0, .int .i64 0, .int .i64 0, .int .i64 0] from (by (repeat (first | (with_reducible refine Cs.new ?_; focus (first | rfl | (simp; done) | omega)) | with_reducible refine Cs.alloc ?_ _ | with_reducible refine Cs.drew ?_ | with_reducible refine Cs.drewN ?_ _ | (with_reducible refine Cs.other ?_ ?_ _; focus (first | omega | (simp; omega))) | with_reducible apply Cs.put)) <;> first | rfl | (simp; done))).after hb)
  simp only [World.size_alloc] at hpl hod
  have lp := hcs.1
  have HC1 := Lib.hid hcs
  have HD1 := Lib.hid hod
  clear hb hcs hod
  go_wp2_with (fail)
  go_at_call 37
  refine (HL.out p D dq T ts.length tq _ w1 HC1.out HD1.out (by omega)).mono ?_
  rintro e w2 ⟨rfl, D2, dq2, hcs, hod, hb⟩
  have HB2 := Lib.hid (HB1.out.trans (hb.mono (show w.heap.size ≤ p by omega)))
  have CA2 := Lib.hid (CA1.out.below hb (by omega))
  have CB2 := Lib.hid (CB1.out.below hb (by omega))
  have HC2 := Lib.hid hcs
  have HD2 := Lib.hid hod
  have lp2 := hcs.1
  clear hb hcs hod
  go_wp2_with (fail)
  go_at_call 38
  refine (HS.out p D2 dq2 T tq _ w2 HC2.out HD2.out (by omega) (RdE.heap HT.out (fun ad e => HB2.out.block ad.block (HTB.out ad e))) (fun ad e => by have := HTB.out ad e; omega)).mono ?_
  rintro e w3 ⟨hcase, hb⟩
  have HB3 := Lib.hid (HB2.out.trans (hb.mono (show w.heap.size ≤ p by omega)))
  have CA3 := Lib.hid (CA2.out.below hb (by omega))
  have CB3 := Lib.hid (CB2.out.below hb (by omega))
  clear hb
  have lA := CA3.out.1
  have lB := CB3.out.1
  have nAB : w.heap.size + 1 + 1 ≠ w.heap.size + 1 + 1 + 1 := by omega
  have nBA : w.heap.size + 1 + 1 + 1 ≠ w.heap.size + 1 + 1 := by omega
  have nAp : w.heap.size + 1 + 1 ≠ p := by omega
  have npA : p ≠ w.heap.size + 1 + 1 := by omega
  have nBp : w.heap.size + 1 + 1 + 1 ≠ p := by omega
  have npB : p ≠ w.heap.size + 1 + 1 + 1 := by omega
  have nwA : w3.heap.size ≠ w.heap.size + 1 + 1 := by omega
  have nwB : w3.heap.size ≠ w.heap.size + 1 + 1 + 1 := by omega
  have za0 := (CA3.out.at 0 rfl).1
  have ya0 := (CA3.out.at 0 rfl).2
  have zb0 := (CB3.out.at 0 rfl).1
  have yb0 := (CB3.out.at 0 rfl).2
  have za1 := (CA3.out.at 1 rfl).1
  have ya1 := (CA3.out.at 1 rfl).2
  have zb1 := (CB3.out.at 1 rfl).1
  have yb1 := (CB3.out.at 1 rfl).2
  have za2 := (CA3.out.at 2 rfl).1
  have ya2 := (CA3.out.at 2 rfl).2
  have zb2 := (CB3.out.at 2 rfl).1
  have yb2 := (CB3.out.at 2 rfl).2
  have za3 := (CA3.out.at 3 rfl).1
  have ya3 := (CA3.out.at 3 rfl).2
  have zb3 := (CB3.out.at 3 rfl).1
  have yb3 := (CB3.out.at 3 rfl).2
  have za4 := (CA3.out.at 4 rfl).1
  have ya4 := (CA3.out.at 4 rfl).2
  have zb4 := (CB3.out.at 4 rfl).1
  have yb4 := (CB3.out.at 4 rfl).2
  have za5 := (CA3.out.at 5 rfl).1
  have ya5 := (CA3.out.at 5 rfl).2
  have zb5 := (CB3.out.at 5 rfl).1
  have yb5 := (CB3.out.at 5 rfl).2
  have za6 := (CA3.out.at 6 rfl).1
  have ya6 := (CA3.out.at 6 rfl).2
  have zb6 := (CB3.out.at 6 rfl).1
  have yb6 := (CB3.out.at 6 rfl).2
  rcases hcase with ⟨hu0, rfl⟩ | ⟨hu0, rfl, D3, dq3, hcs, hod⟩
  · have HU := Lib.hid hu0
    clear hu0
    go_wp2_with (fail)
    refine bodyPost_ret (v := .tuple #[.agg #[.int .i64 0, .int .i64 0, .int .i64 0, .int .i64 0, .int .i64 0, .int .i64 0, .slice none 0 0], .agg #[.int .i64 0, .int .i64 0, .int .i64 0, .int .i64 0, .int .i64 0, .int .i64 0, .int .i64 0], .int .i64 19]) (by simp [results, Try.results17, go_sem, lA, lB, Nat.ne_of_lt lA, Nat.ne_of_lt lB, za0, ya0, zb0, yb0, za1, ya1, zb1, yb1, za2, ya2, zb2, yb2, za3, ya3, zb3, yb3, za4, ya4, zb4, yb4, za5, ya5, zb5, yb5, za6, ya6, zb6, yb6]) rfl ⟨.inl ⟨HU.out, rfl⟩, blw_alloc (below_set7 (below_set7 HB3.out _ (by omega) _ _ _ _ _ _ _) _ (by omega) _ _ _ _ _ _ _) _⟩
  · have HU := Lib.hid hu0
    have HC3 := Lib.hid hcs
    have HD3 := Lib.hid hod
    have lp3 := hcs.1
    have pc0 := (HC3.out.at 0 rfl).1
    have pc1 := (HC3.out.at 1 rfl).1
    have pc2 := (HC3.out.at 2 rfl).1
    have pc3 := (HC3.out.at 3 rfl).1
    have pc4 := (HC3.out.at 4 rfl).1
    have pc5 := (HC3.out.at 5 rfl).1
    have pc6 := (HC3.out.at 6 rfl).1
    clear hu0 hcs hod
    go_wp2_with (fail)
    go_region
    go_wp2_with fail
    refine bodyPost_ret (v := .tuple #[.agg #[.int .i64 c.me, .int .i64 c.rev, .int .i64 c.nx, .int .i64 c.mo, .int .i64 c.bo, .int .i64 c.fr, .slice D3 fs.length dq3], .agg #[.int .i64 v0, .int .i64 v1, .int .i64 v2, .int .i64 v3, .int .i64 v4, .int .i64 v5, .int .i64 v6], .int .i64 0]) (by simp [results, Try.results17, go_sem, lA, lB, Nat.ne_of_lt lA, Nat.ne_of_lt lB, za0, ya0, zb0, yb0, za1, ya1, zb1, yb1, za2, ya2, zb2, yb2, za3, ya3, zb3, yb3, za4, ya4, zb4, yb4, za5, ya5, zb5, yb5, za6, ya6, zb6, yb6]) rfl ⟨.inr ⟨HU.out, D3, dq3, rfl, ?_⟩, (blw_alloc (below_set7 (below_set7 HB3.out _ (by omega) _ _ _ _ _ _ _) _ (by omega) _ _ _ _ _ _ _) _).drew⟩
    exact odb_drew (odb_alloc (odb_set7 (odb_set7 HD3.out (by omega) (Nat.le_refl _) _ _ _ _ _ _ _) (by omega) (by omega) _ _ _ _ _ _ _) _)
end Go.Proofs.Ytfdgjaahmbjnpaa.Acc
