/- The walk of MeterLocks. -/
import Derived.Test.YtfdgjaahmbjnpaaLockP
import Derived.Test.YtfdgjaahmbjnpaaCs
import Derived.Deep.RegionLaw
namespace Go.Proofs.Ytfdgjaahmbjnpaa.MeterLocks
open Go.RowKit Go.Proofs.Ytfdgjaahmbjnpaa.Base Go.Proofs.Ytfdgjaahmbjnpaa.Win Go.Proofs.Ytfdgjaahmbjnpaa.Orc Go.Proofs.Ytfdgjaahmbjnpaa.Tok Go.Proofs.Ytfdgjaahmbjnpaa.Met
set_option linter.unusedVariables false
set_option linter.unusedSimpArgs false
set_option maxRecDepth 20000
theorem put7 {w : World} {b : Nat} {a0 a1 a2 a3 a4 a5 a6 v0 v1 v2 v3 v4 v5 v6 : Value} (h : Cs w b [a0, a1, a2, a3, a4, a5, a6]) : Cs (((((((w.setCell ⟨b, 0, none⟩ v0).setCell ⟨b, 1, none⟩ v1).setCell ⟨b, 2, none⟩ v2).setCell ⟨b, 3, none⟩ v3).setCell ⟨b, 4, none⟩ v4).setCell ⟨b, 5, none⟩ v5).setCell ⟨b, 6, none⟩ v6) b [v0, v1, v2, v3, v4, v5, v6] :=
  ((((((h.put (i := 0) (by simp) rfl).put (i := 1) (by simp) rfl).put (i := 2) (by simp) rfl).put (i := 3) (by simp) rfl).put (i := 4) (by simp) rfl).put (i := 5) (by simp) rfl).put (i := 6) (by simp) rfl
theorem oth7 {w : World} {b c : Nat} {vs : List Value} {v0 v1 v2 v3 v4 v5 v6 : Value} (hne : c ≠ b) (h : Cs w b vs) : Cs (((((((w.setCell ⟨c, 0, none⟩ v0).setCell ⟨c, 1, none⟩ v1).setCell ⟨c, 2, none⟩ v2).setCell ⟨c, 3, none⟩ v3).setCell ⟨c, 4, none⟩ v4).setCell ⟨c, 5, none⟩ v5).setCell ⟨c, 6, none⟩ v6) b vs :=
  Cs.other hne (Cs.other hne (Cs.other hne (Cs.other hne (Cs.other hne (Cs.other hne (Cs.other hne h _) _) _) _) _) _) _
theorem tag_fault {c i a t d : Int} (h : faultI ⟨c, i, a, t⟩ = 0) (h0 : 0 ≤ d) (h1 : d ≤ 65535) : faultI ⟨c, i, a, d⟩ = 0 := by
  obtain ⟨hc, hi, ha, _⟩ := fault_ok h
  unfold faultI
  rw [if_pos (show clok (⟨c, i, a, d⟩ : Tk).cl from hc), if_pos ⟨hi, ha, h0, h1⟩]
theorem bad_made (y : Tk) (hy : y.ok) : ∃ (c : Int) (u : Tk), (∀ w, Calls Try.prog 10 #[.int .i64 y.cl, .int .i64 3] w fun e w' => e = .returned (.int .i64 c) ∧ w = w') ∧
    (∀ w, Calls Try.prog 12 #[.agg #[.int .i64 c, .int .i64 y.id, .int .i64 y.am, .int .i64 y.tag]] w fun e w' => e = .returned (.agg u.vals) ∧ Below w.heap.size w w') ∧ faultI u = 0 ∧ u.cl ≠ 3 := by
  obtain ⟨p0, p1⟩ := pk_bound y.cl 3 (by omega)
  refine ⟨pk y.cl 3, madeT { y with cl := pk y.cl 3 }, fun w => picked_any y.cl 3 w hy.1.1.1 hy.1.1.2 (by omega), fun w => made_any { y with cl := pk y.cl 3 } w ⟨⟨⟨by show -9223372036854775808 ≤ pk y.cl 3; omega, by show pk y.cl 3 ≤ 9223372036854775807; omega⟩, hy.1.2⟩, hy.2⟩, made_good _, ?_⟩
  have : (madeT { y with cl := pk y.cl 3 }).cl = pk (pk y.cl 3) 4 := rfl
  rw [this, pk_id _ 4 p0 (by omega)]
  omega
theorem may_begin (me bd lk : Int) (h0 : 0 ≤ me) (h1 : me < 50) (hb : 0 ≤ bd ∧ bd < 5) (hl : 0 ≤ lk ∧ lk ≤ 30) (hbl : ¬ (0 < bd ∧ 0 < lk)) : (⟨me, 0, 0, 0, 0, bd, lk⟩ : Mt).ok ∧ mmay ⟨me, 0, 0, 0, 0, bd, lk⟩ = true := by
  have c1 : (⟨me, 0, 0, 0, 0, bd, lk⟩ : Mt).c1 := ⟨⟨h0, h1⟩, ⟨by show (0 : Int) ≤ 0; omega, by show (0 : Int) ≤ 15; omega⟩, by show (0 : Int) ≤ 0; omega, by show (0 : Int) ≤ 99999999; omega⟩
  have c2 : (⟨me, 0, 0, 0, 0, bd, lk⟩ : Mt).c2 := ⟨hb, hl, hbl⟩
  exact ⟨ok_of c1 c2 rfl (by show 0 < 18446744073709551616; omega), mmay_of c1 c2 rfl⟩
/-- All that the walk needs of the plain laws: the token that is sold, and what Key and Tick answer. -/
structure Facts (me : Int) (ps : List Pr) (t : Tk) : Prop where
  wrong : ∀ (k : Int) (u : Tk), 0 ≤ k → k < 5 → faultI u = 0 → u.cl ≠ 3 → ¬ (u.cl = t.cl ∧ u.id = t.id ∧ u.am = t.am ∧ u.tag = t.tag) → ∃ nb nl, (k < 4 → nb = k + 1 ∧ nl = 0) ∧ (k = 4 → nb = 0 ∧ nl = 30) ∧ ∀ A c w, RdE 4 Pr.enc w A ps →
    Calls Try.prog 13 #[.agg #[.int .i64 me, .int .i64 0, .int .i64 0, .int .i64 0, .int .u64 0, .int .i64 k, .int .i64 0], .agg #[.slice A ps.length c], .agg u.vals] w fun e w' => e = .returned (.tuple #[.agg #[.int .i64 me, .int .i64 0, .int .i64 0, .int .i64 0, .int .u64 0, .int .i64 nb, .int .i64 nl], .int .i64 0, .int .i64 12]) ∧ Below w.heap.size w w'
  locked : ∀ (lk : Int), 0 < lk → lk ≤ 30 → ∀ A c w, RdE 4 Pr.enc w A ps →
    Calls Try.prog 13 #[.agg #[.int .i64 me, .int .i64 0, .int .i64 0, .int .i64 0, .int .u64 0, .int .i64 0, .int .i64 lk], .agg #[.slice A ps.length c], .agg t.vals] w fun e w' => e = .returned (.tuple #[.agg #[.int .i64 me, .int .i64 0, .int .i64 0, .int .i64 0, .int .u64 0, .int .i64 0, .int .i64 lk], .int .i64 0, .int .i64 10]) ∧ Below w.heap.size w w'
  tick : ∀ (lk ld : Int), 0 < lk → lk ≤ 30 → 0 ≤ ld → ld ≤ 1000 → ∀ w,
    Calls Try.prog 14 #[.agg #[.int .i64 me, .int .i64 0, .int .i64 0, .int .i64 0, .int .u64 0, .int .i64 0, .int .i64 lk], .int .i64 ld] w fun e w' => e = .returned (.tuple #[.agg #[.int .i64 me, .int .i64 0, .int .i64 0, .int .i64 0, .int .u64 0, .int .i64 0, .int .i64 (lk - 1)], .int .i64 0, .int .i64 0]) ∧ Below w.heap.size w w'
  last : ∃ M : Mt, M.cr = t.am ∧ ∀ A c w, RdE 4 Pr.enc w A ps →
    Calls Try.prog 13 #[.agg #[.int .i64 me, .int .i64 0, .int .i64 0, .int .i64 0, .int .u64 0, .int .i64 0, .int .i64 0], .agg #[.slice A ps.length c], .agg t.vals] w fun e w' => e = .returned (.tuple #[.agg M.vals, .int .i64 t.am, .int .i64 0]) ∧ Below w.heap.size w w'
  good : faultI t = 0
  cl : t.cl = 0
theorem facts (me : Int) (x : Tk) (h0 : 0 ≤ me) (h1 : me < 50) (hx : x.ok) : ∃ (ps : List Pr) (t : Tk), Facts me ps t ∧ ∀ w, Calls Try.prog 11 #[.agg #[.slice none 0 0], .agg (beginM me).vals, .agg #[.int .i64 0, .int .i64 x.id, .int .i64 x.am, .int .i64 x.tag]] w fun e w' => ∃ B q, e = .returned (.tuple #[.agg #[.slice B ps.length q], .agg t.vals, .bool true]) ∧ OwPr w.heap.size w' B q ps ∧ Below w.heap.size w w' := by
  obtain ⟨y, hy⟩ : ∃ y : Tk, y = { x with cl := 0 } := ⟨_, rfl⟩
  have hyok : y.ok := by rw [hy]; exact ⟨⟨⟨by show -9223372036854775808 ≤ (0 : Int); omega, by show (0 : Int) ≤ 9223372036854775807; omega⟩, hx.1.2⟩, hx.2⟩
  have l0 : 0 ≤ (beginM me).me ∧ (beginM me).me < 50 := ⟨h0, h1⟩
  have l1 : 0 ≤ (beginM me).rev ∧ (beginM me).rev ≤ 15 := ⟨by show (0 : Int) ≤ 0; omega, by show (0 : Int) ≤ 15; omega⟩
  have hs := fun w => sold_nil (beginM me) y w l0 l1 hyok
  have hkp := kept_nil (beginM me) y l0 l1
  have hgood := soldT_good [] (beginM me).me (beginM me).rev y Kept.nil.good
  have hver := sold_ver (beginM me) y
  have hps : issL [] (beginM me).me (beginM me).rev (bodyI (madeT y)) (madeT y).tag = [⟨me, 0, bodyI (soldT [] (beginM me).me (beginM me).rev y), (soldT [] (beginM me).me (beginM me).rev y).tag⟩] := rfl
  have hcl : (soldT [] (beginM me).me (beginM me).rev y).cl = 0 := by rw [hy]; rfl
  have hlim := sold_lim [] (beginM me).me (beginM me).rev y Kept.nil.good
  refine ⟨issL [] (beginM me).me (beginM me).rev (bodyI (madeT y)) (madeT y).tag, soldT [] (beginM me).me (beginM me).rev y, ?_, ?_⟩
  rotate_left
  · intro w
    have := hs w
    rw [show y.vals = #[.int .i64 0, .int .i64 x.id, .int .i64 x.am, .int .i64 x.tag] by rw [hy]; rfl] at this
    exact this
  rw [hps] at hkp hver ⊢
  generalize soldT [] (beginM me).me (beginM me).rev y = t at *
  clear hs hps
  refine ⟨?_, ?_, ?_, ?_, hgood, hcl⟩
  · intro k u k0 k1 hu hc hne
    obtain ⟨g1, g2⟩ := may_begin me k 0 h0 h1 ⟨k0, k1⟩ ⟨by omega, by omega⟩ (by omega)
    have hk := fun A c w hr => key_yes ⟨me, 0, 0, 0, 0, k, 0⟩ [⟨me, 0, bodyI t, t.tag⟩] u A c w g1 g2 hr hkp.ok hkp.good
    rw [key_wrong ⟨me, 0, 0, 0, 0, k, 0⟩ me t u hu hgood rfl hc hne] at hk
    unfold badM at hk
    by_cases h4 : k + 1 = 5
    · rw [if_pos (show (⟨me, 0, 0, 0, 0, k, 0⟩ : Mt).bad + 1 = 5 from h4)] at hk
      exact ⟨0, 30, fun h => by omega, fun _ => ⟨rfl, rfl⟩, hk⟩
    · rw [if_neg (show ¬ (⟨me, 0, 0, 0, 0, k, 0⟩ : Mt).bad + 1 = 5 from h4)] at hk
      exact ⟨k + 1, 0, fun _ => ⟨rfl, rfl⟩, fun h => by omega, hk⟩
  · intro lk k0 k1
    obtain ⟨g1, g2⟩ := may_begin me 0 lk h0 h1 ⟨by omega, by omega⟩ ⟨by omega, by omega⟩ (by omega)
    have hk := fun A c w hr => key_yes ⟨me, 0, 0, 0, 0, 0, lk⟩ [⟨me, 0, bodyI t, t.tag⟩] t A c w g1 g2 hr hkp.ok hkp.good
    rw [key_locked ⟨me, 0, 0, 0, 0, 0, lk⟩ _ t hgood k0] at hk
    exact hk
  · intro lk ld k0 k1 d0 d1 w
    obtain ⟨g1, g2⟩ := may_begin me 0 lk h0 h1 ⟨by omega, by omega⟩ ⟨by omega, by omega⟩ (by omega)
    have hk := tick_any ⟨me, 0, 0, 0, 0, 0, lk⟩ ld w g1 g2 d0 d1
    unfold tickM at hk
    have e1 : min ld (0 : Int) = 0 := by omega
    have e2 : max (lk - 1) 0 = lk - 1 := by omega
    simp only [e1, e2] at hk
    exact hk
  · obtain ⟨g1, g2⟩ := may_begin me 0 0 h0 h1 ⟨by omega, by omega⟩ ⟨by omega, by omega⟩ (by omega)
    have hk := fun A c w hr => key_yes ⟨me, 0, 0, 0, 0, 0, 0⟩ [⟨me, 0, bodyI t, t.tag⟩] t A c w g1 g2 hr hkp.ok hkp.good
    rw [key_sold ⟨me, 0, 0, 0, 0, 0, 0⟩ _ t hgood rfl (by omega) (by show (0 : Int) ≤ 0; omega) hver, take_credit _ t (judge_new t.id hlim.1.1) hcl, if_neg (by show ¬ (0 : Int) + t.am > 99999999; have := hlim.2.1.2; omega)] at hk
    exact ⟨_, by show (0 : Int) + t.am = t.am; omega, hk⟩
set_option maxHeartbeats 40000000 in
theorem walk (mq : Int) (bad : List Tk) (L : Option Addr) (cl : Nat) (x : Tk) (xs : List Value) (ld : Int) (w : World) (wm : (Lit.int .i64 mq).wf = true) (hl : RdE 4 (fun t : Tk => t.vals.toList) w L bad) (hk : ∀ t ∈ bad, t.ok) (hx : xs = x.vals.toList ∧ x.ok) (wl : (Lit.int .i64 ld).wf = true) :
    Calls Try.prog 3 #[.int .i64 mq, .slice L bad.length cl, .agg xs.toArray, .int .i64 ld] w fun e w' => e = .returned (.bool true) ∧ Below w.heap.size w w' := by
  obtain ⟨rfl, hx⟩ := hx
  rw [show x.vals.toList.toArray = x.vals by simp]
  obtain ⟨m0, m1⟩ := i64_bound wm
  obtain ⟨d0, d1⟩ := i64_bound wl
  obtain ⟨p0, p1⟩ := pk_bound mq 50 (by omega)
  obtain ⟨q0, q1⟩ := pk_bound ld 1001 (by omega)
  have HP := Lib.hid (fun w => picked_any mq 50 w m0 m1 (by omega))
  have HD := Lib.hid (fun w => picked_any ld 1001 w d0 d1 (by omega))
  have hmx := hl.1
  have HL := Lib.hid hl
  have HQ := Lib.hid hk
  obtain ⟨me, hme⟩ : ∃ m, m = pk mq 50 := ⟨_, rfl⟩
  obtain ⟨lq, hlq⟩ : ∃ m, m = pk ld 1001 := ⟨_, rfl⟩
  rw [← hme] at HP p0 p1
  rw [← hlq] at HD q0 q1
  have HB := Lib.hid (fun w => begin_any me w p0 p1)
  obtain ⟨ps, t, hf, hs⟩ := facts me x p0 p1 hx
  have HF := Lib.hid hf
  have HS := Lib.hid hs
  have hmx2 : 0 ≤ t.tag ∧ t.tag ≤ 65535 := (fault_ok hf.good).2.2.2
  obtain ⟨tg0, tg1⟩ := hmx2
  have hcl := hf.cl
  obtain ⟨M, hM, hlast⟩ := hf.last
  have HLA := Lib.hid hlast
  clear hl hk hs hf hlast wm wl m0 m1 d0 d1 hme hlq hx
  obtain ⟨xc, xi, xa, xt⟩ := x
  obtain ⟨tc, ti, ta, tt⟩ := t
  obtain ⟨M0, M1, M2, M3, M4, M5, M6⟩ := M
  simp only at hM hcl
  replace hM := hM.symm
  subst hM hcl
  unfold beginM Mt.vals Tk.vals at *
  simp only at *
  go_enter Try.func3, Try.ntmps3
  go_wp2_with (fail)
  go_at_call 10
  refine (HP.out _).mono ?_
  rintro e w' ⟨rfl, rfl⟩
  go_wp2_with (fail)
  go_at_call 9
  refine (HB.out _).mono ?_
  rintro e w1 ⟨rfl, hb⟩
  have hwz1 := hb.size
  try simp at hwz1
  have HBw1 : Hid (Below w.heap.size w w1) := Lib.hid (below_then' (by repeat (first | with_reducible exact Below.refl _ _ | with_reducible refine blw_alloc ?_ _ | with_reducible refine Below.drew ?_ | with_reducible refine blw_step ?_ _ | with_reducible refine Below.setCell (p := ⟨_, _, none⟩) ?_ (by first | exact Nat.le_refl _ | (simp; done) | (simp; omega) | omega) _)) hb)
  have Cxw1 : Hid (Cs w1 (w.heap.size) [.int .i64 xc, .int .i64 xi, .int .i64 xa, .int .i64 xt]) := Lib.hid ((show Cs _ (w.heap.size) [.int .i64 xc, .int .i64 xi, .int .i64 xa, .int .i64 xt] from (by (repeat (first | (with_reducible refine Cs.new ?_; focus (first | rfl | (simp; done) | omega)) | with_reducible refine Cs.alloc ?_ _ | with_reducible refine Cs.drew ?_ | with_reducible refine Cs.drewN ?_ _ | (with_reducible refine Cs.other ?_ ?_ _; focus (first | omega | (simp; omega))) | with_reducible apply Cs.put)) <;> first | rfl | (simp; done))).after hb)
  clear hb
  have lxw1 := Cxw1.out.1
  have xw1g0 := (Cxw1.out.at 0 rfl).1
  have xw1f0 := (Cxw1.out.at 0 rfl).2
  have xw1g1 := (Cxw1.out.at 1 rfl).1
  have xw1f1 := (Cxw1.out.at 1 rfl).2
  have xw1g2 := (Cxw1.out.at 2 rfl).1
  have xw1f2 := (Cxw1.out.at 2 rfl).2
  have xw1g3 := (Cxw1.out.at 3 rfl).1
  have xw1f3 := (Cxw1.out.at 3 rfl).2
  go_wp2_with (fail)
  go_at_call 11
  refine (HS.out _).mono ?_
  rintro e w2 ⟨B, q, rfl, ho, hb⟩
  have hwz2 := hb.size
  try simp at hwz2
  have HBw2 : Hid (Below w.heap.size w w2) := Lib.hid (below_then' (by repeat (first | with_reducible exact HBw1.out | with_reducible refine blw_alloc ?_ _ | with_reducible refine Below.drew ?_ | with_reducible refine blw_step ?_ _ | with_reducible refine Below.setCell (p := ⟨_, _, none⟩) ?_ (by first | exact Nat.le_refl _ | (simp; done) | (simp; omega) | omega) _)) hb)
  have Cmw2 : Hid (Cs w2 (w1.heap.size) [.int .i64 me, .int .i64 0, .int .i64 0, .int .i64 0, .int .u64 0, .int .i64 0, .int .i64 0]) := Lib.hid ((show Cs _ (w1.heap.size) [.int .i64 me, .int .i64 0, .int .i64 0, .int .i64 0, .int .u64 0, .int .i64 0, .int .i64 0] from (by (repeat (first | (with_reducible refine Cs.new ?_; focus (first | rfl | (simp; done) | omega)) | with_reducible refine Cs.alloc ?_ _ | with_reducible refine Cs.drew ?_ | with_reducible refine Cs.drewN ?_ _ | (with_reducible refine Cs.other ?_ ?_ _; focus (first | omega | (simp; omega))) | with_reducible apply Cs.put)) <;> first | rfl | (simp; done))).after hb)
  have HO := Lib.hid (show OwPr (w1.heap.size + 1) w2 B q ps from Orc.own_mono ho (by simp))
  clear ho
  clear xw1g0 xw1f0 xw1g1 xw1f1 xw1g2 xw1f2 xw1g3 xw1f3 hb
  have lmw2 := Cmw2.out.1
  go_wp2_with (fail)
  go_loopg [14] 5 (fun n i wr => ∃ (k : Nat) (bd lk : Int), n + k = 5 ∧ i = .int .i64 k ∧ (k < 5 → bd = (k : Int) ∧ lk = 0) ∧ (k = 5 → bd = 0 ∧ lk = 30) ∧ OwPr (w1.heap.size + 1) wr B q ps ∧ Below w.heap.size w wr ∧ Cs wr (w1.heap.size) [.int .i64 me, .int .i64 0, .int .i64 0, .int .i64 0, .int .u64 0, .int .i64 bd, .int .i64 lk] ∧ Cs wr (w2.heap.size) [.slice B ps.length q] ∧ Cs wr (w2.heap.size + 1) [.int .i64 0, .int .i64 ti, .int .i64 ta, .int .i64 tt])
  case atStart => exact ⟨0, 0, 0, by omega, rfl, fun _ => ⟨rfl, rfl⟩, fun h => by omega, World.ownsRow.alloc (World.ownsRow.alloc HO.out _) _, (by repeat (first | with_reducible exact HBw2.out | with_reducible refine blw_alloc ?_ _ | with_reducible refine Below.drew ?_ | with_reducible refine blw_step ?_ _ | with_reducible refine Below.setCell (p := ⟨_, _, none⟩) ?_ (by first | exact Nat.le_refl _ | (simp; done) | (simp; omega) | omega) _)), (by (repeat (first | with_reducible exact Cmw2.out | (with_reducible refine Cs.new ?_; focus (first | rfl | (simp; done) | omega)) | with_reducible refine Cs.alloc ?_ _ | with_reducible refine Cs.drew ?_ | with_reducible refine Cs.drewN ?_ _ | (with_reducible refine Cs.other ?_ ?_ _; focus (first | omega | (simp; omega))) | with_reducible apply Cs.put)) <;> first | rfl | (simp; done)), (by (repeat (first | (with_reducible refine Cs.new ?_; focus (first | rfl | (simp; done) | omega)) | with_reducible refine Cs.alloc ?_ _ | with_reducible refine Cs.drew ?_ | with_reducible refine Cs.drewN ?_ _ | (with_reducible refine Cs.other ?_ ?_ _; focus (first | omega | (simp; omega))) | with_reducible apply Cs.put)) <;> first | rfl | (simp; done)), (by (repeat (first | (with_reducible refine Cs.new ?_; focus (first | rfl | (simp; done) | omega)) | with_reducible refine Cs.alloc ?_ _ | with_reducible refine Cs.drew ?_ | with_reducible refine Cs.drewN ?_ _ | (with_reducible refine Cs.other ?_ ?_ _; focus (first | omega | (simp; omega))) | with_reducible apply Cs.put)) <;> first | rfl | (simp; done))⟩
  case round =>
    skip
    obtain ⟨k, bd, lk, hk5, rfl, hkb, hke, hown, hbl, hcm, hco, hct⟩ := hrel
    have HO1 := Lib.hid hown
    have HBw := Lib.hid hbl
    have Cmwr := Lib.hid hcm
    have Cowr := Lib.hid hco
    have Ctwr := Lib.hid hct
    have hsz1 := hbl.size
    clear hown hbl hcm hco hct
    by_cases hlt : k < 5
    · obtain ⟨rfl, rfl⟩ := hkb hlt
      clear hkb hke
      have hk0 : (0 : Int) ≤ (k : Int) := by omega
      have hk5i : (k : Int) < 5 := by omega
      have lmwr := Cmwr.out.1
      have lowr := Cowr.out.1
      have ltwr := Ctwr.out.1
      go_upto_if 60 with fail
      go_cut [] (fun wx => ∃ y : Tk, y.ok ∧ Below wr.heap.size wr wx ∧ Cs wx wr.heap.size [.int .i64 y.cl, .int .i64 y.id, .int .i64 y.am, .int .i64 y.tag])
      case first =>
        by_cases hlb : k < bad.length
        · obtain ⟨ad, rfl, a0, a1, a2, a3⟩ := at4 (HL.out.below HBw.out) k hlb _ _ _ _ rfl
          have a0 := cell_old a0
          have a1 := cell_old a1
          have a2 := cell_old a2
          have a3 := cell_old a3
          have hyk := HQ.out _ (List.getElem_mem hlb)
          generalize bad[k] = y at *
          have hki : (k : Int) < (bad.length : Int) := by omega
          go_wp2_with fail
          go_meet
          case rel => exact ⟨y, hyk, (by repeat (first | with_reducible exact Below.refl _ _ | with_reducible refine blw_alloc ?_ _ | with_reducible refine Below.drew ?_ | with_reducible refine blw_step ?_ _ | with_reducible refine Below.setCell (p := ⟨_, _, none⟩) ?_ (by first | exact Nat.le_refl _ | (simp; done) | (simp; omega) | omega) _)), (by (repeat (first | (with_reducible refine Cs.new ?_; focus (first | rfl | (simp; done) | omega)) | with_reducible refine Cs.alloc ?_ _ | with_reducible refine Cs.drew ?_ | with_reducible refine Cs.drewN ?_ _ | (with_reducible refine Cs.other ?_ ?_ _; focus (first | omega | (simp; omega))) | with_reducible apply Cs.put)) <;> first | rfl | (simp; done))⟩
        · have hki : ¬ (k : Int) < (bad.length : Int) := by omega
          go_wp2_with fail
          go_meet
          case rel => exact ⟨⟨0, (k : Int), 0, 0⟩, ⟨⟨⟨by show -9223372036854775808 ≤ (0 : Int); omega, by show (0 : Int) ≤ 9223372036854775807; omega⟩, by show -9223372036854775808 ≤ (k : Int); omega, by show (k : Int) ≤ 9223372036854775807; omega⟩, ⟨by show -9223372036854775808 ≤ (0 : Int); omega, by show (0 : Int) ≤ 9223372036854775807; omega⟩, by show -9223372036854775808 ≤ (0 : Int); omega, by show (0 : Int) ≤ 9223372036854775807; omega⟩, (by repeat (first | with_reducible exact Below.refl _ _ | with_reducible refine blw_alloc ?_ _ | with_reducible refine Below.drew ?_ | with_reducible refine blw_step ?_ _ | with_reducible refine Below.setCell (p := ⟨_, _, none⟩) ?_ (by first | exact Nat.le_refl _ | (simp; done) | (simp; omega) | omega) _)), (by (repeat (first | (with_reducible refine Cs.new ?_; focus (first | rfl | (simp; done) | omega)) | with_reducible refine Cs.alloc ?_ _ | with_reducible refine Cs.drew ?_ | with_reducible refine Cs.drewN ?_ _ | (with_reducible refine Cs.other ?_ ?_ _; focus (first | omega | (simp; omega))) | with_reducible apply Cs.put)) <;> first | rfl | (simp; done))⟩
      case rest =>
        obtain ⟨y, hyk, hb, hcy⟩ := hcut
        obtain ⟨wa, rfl⟩ : ∃ wo : World, wo = wc := ⟨_, rfl⟩
        have Cywa := Lib.hid hcy
        have HBwa := Lib.hid hb
        have Cmwa := Lib.hid (Cmwr.out.after hb)
        have Cowa := Lib.hid (Cowr.out.after hb)
        have Ctwa := Lib.hid (Ctwr.out.after hb)
        have hzwa := hb.size
        clear hb
        obtain ⟨c3, u, H1, H2, hfu, huc⟩ := bad_made y hyk
        obtain ⟨yc, yi, ya, yt⟩ := y
        obtain ⟨ucl, uid, uam, utag⟩ := u
        unfold Tk.vals at H2
        simp only at *
        have HY1 := Lib.hid H1
        have HY2 := Lib.hid H2
        have HFU := Lib.hid hfu
        have HUC := Lib.hid huc
        clear H1 H2 hfu huc hyk hcy
        have lmwa := Cmwa.out.1
        have lowa := Cowa.out.1
        have ltwa := Ctwa.out.1
        have lywa := Cywa.out.1
        have ywag0 := (Cywa.out.at 0 rfl).1
        have ywaf0 := (Cywa.out.at 0 rfl).2
        have ywag1 := (Cywa.out.at 1 rfl).1
        have ywaf1 := (Cywa.out.at 1 rfl).2
        have ywag2 := (Cywa.out.at 2 rfl).1
        have ywaf2 := (Cywa.out.at 2 rfl).2
        have ywag3 := (Cywa.out.at 3 rfl).1
        have ywaf3 := (Cywa.out.at 3 rfl).2
        go_wp2_with (fail)
        go_at_call 10
        refine (HY1.out _).mono ?_
        rintro e w' ⟨rfl, rfl⟩
        go_wp2_with (fail)
        go_at_call 12
        refine (HY2.out _).mono ?_
        rintro e v1 ⟨rfl, hb⟩
        have hvz1 := hb.size
        try simp at hvz1
        have HBv1 : Hid (Below wr.heap.size wr v1) := Lib.hid (below_then' (by repeat (first | with_reducible exact HBwa.out | with_reducible refine blw_alloc ?_ _ | with_reducible refine Below.drew ?_ | with_reducible refine blw_step ?_ _ | with_reducible refine Below.setCell (p := ⟨_, _, none⟩) ?_ (by first | exact Nat.le_refl _ | (simp; done) | (simp; omega) | omega) _)) hb)
        have Cmv1 : Hid (Cs v1 (w1.heap.size) [.int .i64 me, .int .i64 0, .int .i64 0, .int .i64 0, .int .u64 0, .int .i64 (k : Int), .int .i64 0]) := Lib.hid ((show Cs _ (w1.heap.size) [.int .i64 me, .int .i64 0, .int .i64 0, .int .i64 0, .int .u64 0, .int .i64 (k : Int), .int .i64 0] from (by (repeat (first | with_reducible exact Cmwa.out | (with_reducible refine Cs.new ?_; focus (first | rfl | (simp; done) | omega)) | with_reducible refine Cs.alloc ?_ _ | with_reducible refine Cs.drew ?_ | with_reducible refine Cs.drewN ?_ _ | (with_reducible refine Cs.other ?_ ?_ _; focus (first | omega | (simp; omega))) | with_reducible apply Cs.put)) <;> first | rfl | (simp; done))).after hb)
        have Cov1 : Hid (Cs v1 (w2.heap.size) [.slice B ps.length q]) := Lib.hid ((show Cs _ (w2.heap.size) [.slice B ps.length q] from (by (repeat (first | with_reducible exact Cowa.out | (with_reducible refine Cs.new ?_; focus (first | rfl | (simp; done) | omega)) | with_reducible refine Cs.alloc ?_ _ | with_reducible refine Cs.drew ?_ | with_reducible refine Cs.drewN ?_ _ | (with_reducible refine Cs.other ?_ ?_ _; focus (first | omega | (simp; omega))) | with_reducible apply Cs.put)) <;> first | rfl | (simp; done))).after hb)
        have Ctv1 : Hid (Cs v1 (w2.heap.size + 1) [.int .i64 0, .int .i64 ti, .int .i64 ta, .int .i64 tt]) := Lib.hid ((show Cs _ (w2.heap.size + 1) [.int .i64 0, .int .i64 ti, .int .i64 ta, .int .i64 tt] from (by (repeat (first | with_reducible exact Ctwa.out | (with_reducible refine Cs.new ?_; focus (first | rfl | (simp; done) | omega)) | with_reducible refine Cs.alloc ?_ _ | with_reducible refine Cs.drew ?_ | with_reducible refine Cs.drewN ?_ _ | (with_reducible refine Cs.other ?_ ?_ _; focus (first | omega | (simp; omega))) | with_reducible apply Cs.put)) <;> first | rfl | (simp; done))).after hb)
        clear ywag0 ywaf0 ywag1 ywaf1 ywag2 ywaf2 ywag3 ywaf3 hb
        have lmv1 := Cmv1.out.1
        have lov1 := Cov1.out.1
        have ltv1 := Ctv1.out.1
        have tv1g0 := (Ctv1.out.at 0 rfl).1
        have tv1g1 := (Ctv1.out.at 1 rfl).1
        have tv1g2 := (Ctv1.out.at 2 rfl).1
        have tv1g3 := (Ctv1.out.at 3 rfl).1
        go_upto_region 14 with fail
        go_cut [87] (fun b wx => b = .bool (decide (ucl = 0 ∧ uid = ti ∧ uam = ta)) ∧ Below wr.heap.size wr wx ∧ Cs wx (v1.heap.size) [.int .i64 ucl, .int .i64 uid, .int .i64 uam, .int .i64 utag])
        case first =>
          by_cases h1 : ucl = 0
          · have e1 : (ucl == 0) = true := by simp [h1]
            have H1 := Lib.hid h1
            clear h1
            by_cases h2 : uid = ti
            · have e2 : (uid == ti) = true := by simp [h2]
              have H2 := Lib.hid h2
              clear h2
              by_cases h3 : uam = ta
              · have e3 : (uam == ta) = true := by simp [h3]
                have H3 := Lib.hid h3
                clear h3
                go_wp2_with fail
                go_meet
                case rel => exact ⟨by simp [H1.out, H2.out, H3.out], (by repeat (first | with_reducible exact HBv1.out | with_reducible refine blw_alloc ?_ _ | with_reducible refine Below.drew ?_ | with_reducible refine blw_step ?_ _ | with_reducible refine Below.setCell (p := ⟨_, _, none⟩) ?_ (by first | exact Nat.le_refl _ | (simp; done) | (simp; omega) | omega) _)), (by (repeat (first | (with_reducible refine Cs.new ?_; focus (first | rfl | (simp; done) | omega)) | with_reducible refine Cs.alloc ?_ _ | with_reducible refine Cs.drew ?_ | with_reducible refine Cs.drewN ?_ _ | (with_reducible refine Cs.other ?_ ?_ _; focus (first | omega | (simp; omega))) | with_reducible apply Cs.put)) <;> first | rfl | (simp; done))⟩
              · have e3 : (uam == ta) = false := beq_eq_false_iff_ne.mpr h3
                go_wp2_with fail
                go_meet
                case rel => exact ⟨by simp [*], (by repeat (first | with_reducible exact HBv1.out | with_reducible refine blw_alloc ?_ _ | with_reducible refine Below.drew ?_ | with_reducible refine blw_step ?_ _ | with_reducible refine Below.setCell (p := ⟨_, _, none⟩) ?_ (by first | exact Nat.le_refl _ | (simp; done) | (simp; omega) | omega) _)), (by (repeat (first | (with_reducible refine Cs.new ?_; focus (first | rfl | (simp; done) | omega)) | with_reducible refine Cs.alloc ?_ _ | with_reducible refine Cs.drew ?_ | with_reducible refine Cs.drewN ?_ _ | (with_reducible refine Cs.other ?_ ?_ _; focus (first | omega | (simp; omega))) | with_reducible apply Cs.put)) <;> first | rfl | (simp; done))⟩
            · have e2 : (uid == ti) = false := beq_eq_false_iff_ne.mpr h2
              go_wp2_with fail
              go_meet
              case rel => exact ⟨by simp [*], (by repeat (first | with_reducible exact HBv1.out | with_reducible refine blw_alloc ?_ _ | with_reducible refine Below.drew ?_ | with_reducible refine blw_step ?_ _ | with_reducible refine Below.setCell (p := ⟨_, _, none⟩) ?_ (by first | exact Nat.le_refl _ | (simp; done) | (simp; omega) | omega) _)), (by (repeat (first | (with_reducible refine Cs.new ?_; focus (first | rfl | (simp; done) | omega)) | with_reducible refine Cs.alloc ?_ _ | with_reducible refine Cs.drew ?_ | with_reducible refine Cs.drewN ?_ _ | (with_reducible refine Cs.other ?_ ?_ _; focus (first | omega | (simp; omega))) | with_reducible apply Cs.put)) <;> first | rfl | (simp; done))⟩
          · have e1 : (ucl == 0) = false := beq_eq_false_iff_ne.mpr h1
            go_wp2_with fail
            go_meet
            case rel => exact ⟨by simp [*], (by repeat (first | with_reducible exact HBv1.out | with_reducible refine blw_alloc ?_ _ | with_reducible refine Below.drew ?_ | with_reducible refine blw_step ?_ _ | with_reducible refine Below.setCell (p := ⟨_, _, none⟩) ?_ (by first | exact Nat.le_refl _ | (simp; done) | (simp; omega) | omega) _)), (by (repeat (first | (with_reducible refine Cs.new ?_; focus (first | rfl | (simp; done) | omega)) | with_reducible refine Cs.alloc ?_ _ | with_reducible refine Cs.drew ?_ | with_reducible refine Cs.drewN ?_ _ | (with_reducible refine Cs.other ?_ ?_ _; focus (first | omega | (simp; omega))) | with_reducible apply Cs.put)) <;> first | rfl | (simp; done))⟩
        case rest =>
          obtain ⟨rfl, hb, hcu⟩ := hcut
          obtain ⟨wb, rfl⟩ : ∃ wo : World, wo = wc := ⟨_, rfl⟩
          have Cuwb := Lib.hid hcu
          clear hcu
          have HBwb := Lib.hid hb
          have Cmwb := Lib.hid (Cmwr.out.after hb)
          have Cowb := Lib.hid (Cowr.out.after hb)
          have Ctwb := Lib.hid (Ctwr.out.after hb)
          have hzwb := hb.size
          clear hb
          clear tv1g0 tv1g1 tv1g2 tv1g3
          have lmwb := Cmwb.out.1
          have lowb := Cowb.out.1
          have ltwb := Ctwb.out.1
          have twbg0 := (Ctwb.out.at 0 rfl).1
          have twbg1 := (Ctwb.out.at 1 rfl).1
          have twbg2 := (Ctwb.out.at 2 rfl).1
          have twbg3 := (Ctwb.out.at 3 rfl).1
          have luwb := Cuwb.out.1
          have uwbg0 := (Cuwb.out.at 0 rfl).1
          have uwbf0 := (Cuwb.out.at 0 rfl).2
          have uwbg1 := (Cuwb.out.at 1 rfl).1
          have uwbf1 := (Cuwb.out.at 1 rfl).2
          have uwbg2 := (Cuwb.out.at 2 rfl).1
          have uwbf2 := (Cuwb.out.at 2 rfl).2
          have uwbg3 := (Cuwb.out.at 3 rfl).1
          have uwbf3 := (Cuwb.out.at 3 rfl).2
          go_upto_if 87 with fail
          go_cut [] (fun wx => ∃ tg : Int, ¬ (ucl = 0 ∧ uid = ti ∧ uam = ta ∧ tg = tt) ∧ (0 ≤ tg ∧ tg ≤ 65535) ∧ Below wr.heap.size wr wx ∧ Cs wx (v1.heap.size) [.int .i64 ucl, .int .i64 uid, .int .i64 uam, .int .i64 tg])
          case first =>
            have wt : IntKind.i64.wrap (tt + 1) = tt + 1 := by rw [IntKind.wrap_i64]; omega
            have wm : (tt + 1).tmod 65536 = (tt + 1) % 65536 := Int.tmod_eq_emod_of_nonneg (by omega)
            have ww : IntKind.i64.wrap ((tt + 1) % 65536) = (tt + 1) % 65536 := by rw [IntKind.wrap_i64]; omega
            by_cases hc : ucl = 0 ∧ uid = ti ∧ uam = ta
            · have hd : decide (ucl = 0 ∧ uid = ti ∧ uam = ta) = true := decide_eq_true hc
              rw [hd]
              have HC := Lib.hid hc
              clear hc hd
              go_wp2_with fail
              go_meet
              case rel => exact ⟨(tt + 1) % 65536, fun h => by have := h.2.2.2; omega, by omega, (by repeat (first | with_reducible exact HBwb.out | with_reducible refine blw_alloc ?_ _ | with_reducible refine Below.drew ?_ | with_reducible refine blw_step ?_ _ | with_reducible refine Below.setCell (p := ⟨_, _, none⟩) ?_ (by first | exact Nat.le_refl _ | (simp; done) | (simp; omega) | omega) _)), (by (repeat (first | with_reducible exact Cuwb.out | (with_reducible refine Cs.new ?_; focus (first | rfl | (simp; done) | omega)) | with_reducible refine Cs.alloc ?_ _ | with_reducible refine Cs.drew ?_ | with_reducible refine Cs.drewN ?_ _ | (with_reducible refine Cs.other ?_ ?_ _; focus (first | omega | (simp; omega))) | with_reducible apply Cs.put)) <;> first | rfl | (simp; done))⟩
            · have hd : decide (ucl = 0 ∧ uid = ti ∧ uam = ta) = false := decide_eq_false hc
              rw [hd]
              have HC := Lib.hid hc
              have hut := (fault_ok HFU.out).2.2.2
              clear hc hd
              go_wp2_with fail
              go_meet
              case rel => exact ⟨utag, fun h => HC.out ⟨h.1, h.2.1, h.2.2.1⟩, hut, (by repeat (first | with_reducible exact HBwb.out | with_reducible refine blw_alloc ?_ _ | with_reducible refine Below.drew ?_ | with_reducible refine blw_step ?_ _ | with_reducible refine Below.setCell (p := ⟨_, _, none⟩) ?_ (by first | exact Nat.le_refl _ | (simp; done) | (simp; omega) | omega) _)), (by (repeat (first | with_reducible exact Cuwb.out | (with_reducible refine Cs.new ?_; focus (first | rfl | (simp; done) | omega)) | with_reducible refine Cs.alloc ?_ _ | with_reducible refine Cs.drew ?_ | with_reducible refine Cs.drewN ?_ _ | (with_reducible refine Cs.other ?_ ?_ _; focus (first | omega | (simp; omega))) | with_reducible apply Cs.put)) <;> first | rfl | (simp; done))⟩
          case rest =>
            obtain ⟨tg, hne, htg, hb, hcu⟩ := hcut
            have Cuwc := Lib.hid hcu
            clear hcu
            have HBwc := Lib.hid hb
            have Cmwc := Lib.hid (Cmwr.out.after hb)
            have Cowc := Lib.hid (Cowr.out.after hb)
            have Ctwc := Lib.hid (Ctwr.out.after hb)
            have hzwc := hb.size
            clear hb
            obtain ⟨nb, nl, hn1, hn2, hw⟩ := HF.out.wrong k ⟨ucl, uid, uam, tg⟩ (by omega) (by omega) (tag_fault HFU.out htg.1 htg.2) HUC.out (fun h => hne ⟨h.1, h.2.1, h.2.2.1, h.2.2.2⟩)
            have HW := Lib.hid hw
            have HN1 := Lib.hid hn1
            have HN2 := Lib.hid hn2
            clear hw hne htg hn1 hn2
            unfold Tk.vals at HW
            simp only at HW
            clear twbg0 twbg1 twbg2 twbg3 uwbg0 uwbf0 uwbg1 uwbf1 uwbg2 uwbf2 uwbg3 uwbf3
            have lmwc := Cmwc.out.1
            have mwcg0 := (Cmwc.out.at 0 rfl).1
            have mwcg1 := (Cmwc.out.at 1 rfl).1
            have mwcg2 := (Cmwc.out.at 2 rfl).1
            have mwcg3 := (Cmwc.out.at 3 rfl).1
            have mwcg4 := (Cmwc.out.at 4 rfl).1
            have mwcg5 := (Cmwc.out.at 5 rfl).1
            have mwcg6 := (Cmwc.out.at 6 rfl).1
            have lowc := Cowc.out.1
            have owcg0 := (Cowc.out.at 0 rfl).1
            have ltwc := Ctwc.out.1
            have luwc := Cuwc.out.1
            have uwcg0 := (Cuwc.out.at 0 rfl).1
            have uwcg1 := (Cuwc.out.at 1 rfl).1
            have uwcg2 := (Cuwc.out.at 2 rfl).1
            have uwcg3 := (Cuwc.out.at 3 rfl).1
            go_wp2_with (fail)
            go_at_call 13
            refine (HW.out _ _ _ (HO1.out.after HBwc.out).read).mono ?_
            rintro e v2 ⟨rfl, hb⟩
            have hvz2 := hb.size
            try simp at hvz2
            have HBv2 : Hid (Below wr.heap.size wr v2) := Lib.hid (below_then' (by repeat (first | with_reducible exact HBwc.out | with_reducible refine blw_alloc ?_ _ | with_reducible refine Below.drew ?_ | with_reducible refine blw_step ?_ _ | with_reducible refine Below.setCell (p := ⟨_, _, none⟩) ?_ (by first | exact Nat.le_refl _ | (simp; done) | (simp; omega) | omega) _)) hb)
            have Cmv2 : Hid (Cs v2 (w1.heap.size) [.int .i64 me, .int .i64 0, .int .i64 0, .int .i64 0, .int .u64 0, .int .i64 (k : Int), .int .i64 0]) := Lib.hid ((show Cs _ (w1.heap.size) [.int .i64 me, .int .i64 0, .int .i64 0, .int .i64 0, .int .u64 0, .int .i64 (k : Int), .int .i64 0] from (by (repeat (first | with_reducible exact Cmwc.out | (with_reducible refine Cs.new ?_; focus (first | rfl | (simp; done) | omega)) | with_reducible refine Cs.alloc ?_ _ | with_reducible refine Cs.drew ?_ | with_reducible refine Cs.drewN ?_ _ | (with_reducible refine Cs.other ?_ ?_ _; focus (first | omega | (simp; omega))) | with_reducible apply Cs.put)) <;> first | rfl | (simp; done))).after hb)
            have Cov2 : Hid (Cs v2 (w2.heap.size) [.slice B ps.length q]) := Lib.hid ((show Cs _ (w2.heap.size) [.slice B ps.length q] from (by (repeat (first | with_reducible exact Cowc.out | (with_reducible refine Cs.new ?_; focus (first | rfl | (simp; done) | omega)) | with_reducible refine Cs.alloc ?_ _ | with_reducible refine Cs.drew ?_ | with_reducible refine Cs.drewN ?_ _ | (with_reducible refine Cs.other ?_ ?_ _; focus (first | omega | (simp; omega))) | with_reducible apply Cs.put)) <;> first | rfl | (simp; done))).after hb)
            have Ctv2 : Hid (Cs v2 (w2.heap.size + 1) [.int .i64 0, .int .i64 ti, .int .i64 ta, .int .i64 tt]) := Lib.hid ((show Cs _ (w2.heap.size + 1) [.int .i64 0, .int .i64 ti, .int .i64 ta, .int .i64 tt] from (by (repeat (first | with_reducible exact Ctwc.out | (with_reducible refine Cs.new ?_; focus (first | rfl | (simp; done) | omega)) | with_reducible refine Cs.alloc ?_ _ | with_reducible refine Cs.drew ?_ | with_reducible refine Cs.drewN ?_ _ | (with_reducible refine Cs.other ?_ ?_ _; focus (first | omega | (simp; omega))) | with_reducible apply Cs.put)) <;> first | rfl | (simp; done))).after hb)
            clear mwcg0 mwcg1 mwcg2 mwcg3 mwcg4 mwcg5 mwcg6 owcg0 uwcg0 uwcg1 uwcg2 uwcg3 hb
            have lmv2 := Cmv2.out.1
            have mv2g0 := (Cmv2.out.at 0 rfl).1
            have mv2f0 := (Cmv2.out.at 0 rfl).2
            have mv2g1 := (Cmv2.out.at 1 rfl).1
            have mv2f1 := (Cmv2.out.at 1 rfl).2
            have mv2g2 := (Cmv2.out.at 2 rfl).1
            have mv2f2 := (Cmv2.out.at 2 rfl).2
            have mv2g3 := (Cmv2.out.at 3 rfl).1
            have mv2f3 := (Cmv2.out.at 3 rfl).2
            have mv2g4 := (Cmv2.out.at 4 rfl).1
            have mv2f4 := (Cmv2.out.at 4 rfl).2
            have mv2g5 := (Cmv2.out.at 5 rfl).1
            have mv2f5 := (Cmv2.out.at 5 rfl).2
            have mv2g6 := (Cmv2.out.at 6 rfl).1
            have mv2f6 := (Cmv2.out.at 6 rfl).2
            have lov2 := Cov2.out.1
            have ltv2 := Ctv2.out.1
            go_wp2_with (fail)
            go_roundg (4 - k)
            case measure => omega
            case rel => exact ⟨k + 1, nb, nl, by omega, by go_num, fun h => by have := HN1.out (by omega); omega, fun h => by have := HN2.out (by omega); omega, (World.ownsRow.alloc (ownsRow_setCell_below (ownsRow_setCell_below (ownsRow_setCell_below (ownsRow_setCell_below (ownsRow_setCell_below (ownsRow_setCell_below (ownsRow_setCell_below (HO1.out.after HBv2.out) (a := ⟨w1.heap.size, 0, none⟩) (by simp) _) (a := ⟨w1.heap.size, 1, none⟩) (by simp) _) (a := ⟨w1.heap.size, 2, none⟩) (by simp) _) (a := ⟨w1.heap.size, 3, none⟩) (by simp) _) (a := ⟨w1.heap.size, 4, none⟩) (by simp) _) (a := ⟨w1.heap.size, 5, none⟩) (by simp) _) (a := ⟨w1.heap.size, 6, none⟩) (by simp) _) _), (blw_alloc ((((((((HBw.out.trans (HBv2.out.mono hsz1)).setCell (p := ⟨w1.heap.size, 0, none⟩) (by simp; omega) _).setCell (p := ⟨w1.heap.size, 1, none⟩) (by simp; omega) _).setCell (p := ⟨w1.heap.size, 2, none⟩) (by simp; omega) _).setCell (p := ⟨w1.heap.size, 3, none⟩) (by simp; omega) _).setCell (p := ⟨w1.heap.size, 4, none⟩) (by simp; omega) _).setCell (p := ⟨w1.heap.size, 5, none⟩) (by simp; omega) _).setCell (p := ⟨w1.heap.size, 6, none⟩) (by simp; omega) _) _), (put7 Cmv2.out).alloc _, (oth7 (by omega) Cov2.out).alloc _, (oth7 (by omega) Ctv2.out).alloc _⟩
    · obtain rfl : k = 5 := by omega
      obtain ⟨rfl, rfl⟩ := hke rfl
      clear hkb hke
      go_wp2_with (fail)
      obtain ⟨W, hW⟩ : ∃ W : World, W = wr := ⟨_, rfl⟩
      subst hW
      go_loopg [20] 30 (fun n i wr => ∃ (j : Nat), n + j = 30 ∧ i = .int .i64 j ∧ OwPr (w1.heap.size + 1) wr B q ps ∧ Below w.heap.size w wr ∧ Cs wr (w1.heap.size) [.int .i64 me, .int .i64 0, .int .i64 0, .int .i64 0, .int .u64 0, .int .i64 0, .int .i64 (30 - (j : Int))] ∧ Cs wr (w2.heap.size) [.slice B ps.length q] ∧ Cs wr (w2.heap.size + 1) [.int .i64 0, .int .i64 ti, .int .i64 ta, .int .i64 tt])
      case atStart => exact ⟨0, by omega, rfl, HO1.out, HBw.out, Cmwr.out, Cowr.out, Ctwr.out⟩
      case round =>
        clear HO1 HBw Cmwr Cowr Ctwr
        obtain ⟨j, hj30, rfl, hown, hbl, hcm, hco, hct⟩ := hrel
        have HO1 := Lib.hid hown
        have HBw := Lib.hid hbl
        have Cmwr := Lib.hid hcm
        have Cowr := Lib.hid hco
        have Ctwr := Lib.hid hct
        have hsz1 := hbl.size
        clear hown hbl hcm hco hct
        by_cases hlt : j < 30
        · have hj0 : (0 : Int) ≤ (j : Int) := by omega
          have hj3 : (j : Int) < 30 := by omega
          have HKL := Lib.hid (fun A c w hr => HF.out.locked (30 - (j : Int)) (by omega) (by omega) A c w hr)
          have HTK := Lib.hid (fun w => HF.out.tick (30 - (j : Int)) lq (by omega) (by omega) q0 (by omega) w)
          have hje : (30 : Int) - ((j + 1 : Nat) : Int) = 30 - (j : Int) - 1 := by omega
          have HJE := Lib.hid hje
          clear hje
          obtain ⟨lk, hlk⟩ : ∃ lk : Int, lk = 30 - (j : Int) := ⟨_, rfl⟩
          rw [← hlk] at HKL HTK HJE Cmwr
          clear hlk
          unfold Tk.vals at HKL
          simp only at HKL
          have lmwr := Cmwr.out.1
          have mwrg0 := (Cmwr.out.at 0 rfl).1
          have mwrg1 := (Cmwr.out.at 1 rfl).1
          have mwrg2 := (Cmwr.out.at 2 rfl).1
          have mwrg3 := (Cmwr.out.at 3 rfl).1
          have mwrg4 := (Cmwr.out.at 4 rfl).1
          have mwrg5 := (Cmwr.out.at 5 rfl).1
          have mwrg6 := (Cmwr.out.at 6 rfl).1
          have lowr := Cowr.out.1
          have owrg0 := (Cowr.out.at 0 rfl).1
          have ltwr := Ctwr.out.1
          have twrg0 := (Ctwr.out.at 0 rfl).1
          have twrg1 := (Ctwr.out.at 1 rfl).1
          have twrg2 := (Ctwr.out.at 2 rfl).1
          have twrg3 := (Ctwr.out.at 3 rfl).1
          go_wp2_with (fail)
          go_at_call 13
          refine (HKL.out _ _ _ HO1.out.read).mono ?_
          rintro e v1 ⟨rfl, hb⟩
          have hvz1 := hb.size
          try simp at hvz1
          have HBv1 : Hid (Below wr.heap.size wr v1) := Lib.hid (below_then' (by repeat (first | with_reducible exact Below.refl _ _ | with_reducible refine blw_alloc ?_ _ | with_reducible refine Below.drew ?_ | with_reducible refine blw_step ?_ _ | with_reducible refine Below.setCell (p := ⟨_, _, none⟩) ?_ (by first | exact Nat.le_refl _ | (simp; done) | (simp; omega) | omega) _)) hb)
          have Cmv1 : Hid (Cs v1 (w1.heap.size) [.int .i64 me, .int .i64 0, .int .i64 0, .int .i64 0, .int .u64 0, .int .i64 0, .int .i64 lk]) := Lib.hid ((show Cs _ (w1.heap.size) [.int .i64 me, .int .i64 0, .int .i64 0, .int .i64 0, .int .u64 0, .int .i64 0, .int .i64 lk] from (by (repeat (first | with_reducible exact Cmwr.out | (with_reducible refine Cs.new ?_; focus (first | rfl | (simp; done) | omega)) | with_reducible refine Cs.alloc ?_ _ | with_reducible refine Cs.drew ?_ | with_reducible refine Cs.drewN ?_ _ | (with_reducible refine Cs.other ?_ ?_ _; focus (first | omega | (simp; omega))) | with_reducible apply Cs.put)) <;> first | rfl | (simp; done))).after hb)
          have Cov1 : Hid (Cs v1 (w2.heap.size) [.slice B ps.length q]) := Lib.hid ((show Cs _ (w2.heap.size) [.slice B ps.length q] from (by (repeat (first | with_reducible exact Cowr.out | (with_reducible refine Cs.new ?_; focus (first | rfl | (simp; done) | omega)) | with_reducible refine Cs.alloc ?_ _ | with_reducible refine Cs.drew ?_ | with_reducible refine Cs.drewN ?_ _ | (with_reducible refine Cs.other ?_ ?_ _; focus (first | omega | (simp; omega))) | with_reducible apply Cs.put)) <;> first | rfl | (simp; done))).after hb)
          have Ctv1 : Hid (Cs v1 (w2.heap.size + 1) [.int .i64 0, .int .i64 ti, .int .i64 ta, .int .i64 tt]) := Lib.hid ((show Cs _ (w2.heap.size + 1) [.int .i64 0, .int .i64 ti, .int .i64 ta, .int .i64 tt] from (by (repeat (first | with_reducible exact Ctwr.out | (with_reducible refine Cs.new ?_; focus (first | rfl | (simp; done) | omega)) | with_reducible refine Cs.alloc ?_ _ | with_reducible refine Cs.drew ?_ | with_reducible refine Cs.drewN ?_ _ | (with_reducible refine Cs.other ?_ ?_ _; focus (first | omega | (simp; omega))) | with_reducible apply Cs.put)) <;> first | rfl | (simp; done))).after hb)
          clear mwrg0 mwrg1 mwrg2 mwrg3 mwrg4 mwrg5 mwrg6 owrg0 twrg0 twrg1 twrg2 twrg3 hb
          have lmv1 := Cmv1.out.1
          have mv1g0 := (Cmv1.out.at 0 rfl).1
          have mv1g1 := (Cmv1.out.at 1 rfl).1
          have mv1g2 := (Cmv1.out.at 2 rfl).1
          have mv1g3 := (Cmv1.out.at 3 rfl).1
          have mv1g4 := (Cmv1.out.at 4 rfl).1
          have mv1g5 := (Cmv1.out.at 5 rfl).1
          have mv1g6 := (Cmv1.out.at 6 rfl).1
          have lov1 := Cov1.out.1
          have ltv1 := Ctv1.out.1
          go_upto_region 28 with fail
          go_cut [24, 26] (fun p c wx => ∃ b, p = .pointer (some ⟨b, 0, none⟩) ∧ c = .int .i64 0 ∧ wr.heap.size ≤ b ∧ Below wr.heap.size wr wx ∧ Cs wx b [.int .i64 me, .int .i64 0, .int .i64 0, .int .i64 0, .int .u64 0, .int .i64 0, .int .i64 (lk - 1)])
          case first =>
            have nm1 : w1.heap.size ≠ v1.heap.size + 1 := by omega
            have nm2 : v1.heap.size + 1 ≠ w1.heap.size := by omega
            go_region_law (first | (go_simp; go_at_call 10; refine (HD.out _).mono ?_; rintro e w' ⟨rfl, rfl⟩) | (go_simp; go_at_call 14; refine (HTK.out _).mono ?_; rintro e v2 ⟨rfl, hb⟩; obtain ⟨bc, bf⟩ := bcell hb; have hy2 := hb.size; (try simp at hy2); (try simp only [World.size_alloc, World.size_drew] at bc bf); have HB2' : Hid (Below wr.heap.size wr v2) := Lib.hid (below_then' (by repeat (first | with_reducible exact HBv1.out | with_reducible refine blw_alloc ?_ _ | with_reducible refine Below.drew ?_ | with_reducible refine blw_step ?_ _ | with_reducible refine Below.setCell (p := ⟨_, _, none⟩) ?_ (by first | exact Nat.le_refl _ | (simp; done) | (simp; omega) | omega) _)) hb); have HBZ := Lib.hid hb; clear hb))
            all_goals go_wp2_with fail
            all_goals go_meet
            all_goals first | (refine ⟨_, rfl, rfl, by omega, ?_, ?_⟩; rotate_left; with_reducible exact Cs.new rfl; exact (by repeat (first | with_reducible exact HB2'.out | with_reducible refine blw_alloc ?_ _ | with_reducible refine Below.drew ?_ | with_reducible refine blw_step ?_ _ | with_reducible refine Below.setCell (p := ⟨_, _, none⟩) ?_ (by first | exact Nat.le_refl _ | (simp; done) | (simp; omega) | omega) _))) | (have Cz := Lib.hid ((show Cs _ (v1.heap.size + 1) [.int .i64 0, .int .i64 0, .int .i64 0, .int .i64 0, .int .u64 0, .int .i64 0, .int .i64 0] from (by (repeat (first | (with_reducible refine Cs.new ?_; focus (first | rfl | (simp; done) | omega)) | with_reducible refine Cs.alloc ?_ _ | with_reducible refine Cs.drew ?_ | with_reducible refine Cs.drewN ?_ _ | (with_reducible refine Cs.other ?_ ?_ _; focus (first | omega | (simp; omega))) | with_reducible apply Cs.put)) <;> first | rfl | (simp; done))).after HBZ.out); exact ⟨_, rfl, rfl, by omega, (by repeat (first | with_reducible exact HB2'.out | with_reducible refine blw_alloc ?_ _ | with_reducible refine Below.drew ?_ | with_reducible refine blw_step ?_ _ | with_reducible refine Below.setCell (p := ⟨_, _, none⟩) ?_ (by first | exact Nat.le_refl _ | (simp; done) | (simp; omega) | omega) _)), put7 Cz.out⟩)
          case rest =>
            obtain ⟨b, rfl, rfl, hlb, hb, hcy⟩ := hcut
            have Cnwc := Lib.hid hcy
            clear hcy
            have HBwc := Lib.hid hb
            have Cmwc := Lib.hid (Cmwr.out.after hb)
            have Cowc := Lib.hid (Cowr.out.after hb)
            have Ctwc := Lib.hid (Ctwr.out.after hb)
            have hzwc := hb.size
            clear hb
            have nb1 : b ≠ w1.heap.size := by have := Cmwr.out.1; omega
            have nb2 : w1.heap.size ≠ b := by have := Cmwr.out.1; omega
            clear mv1g0 mv1g1 mv1g2 mv1g3 mv1g4 mv1g5 mv1g6
            have lmwc := Cmwc.out.1
            have mwcg0 := (Cmwc.out.at 0 rfl).1
            have mwcf0 := (Cmwc.out.at 0 rfl).2
            have mwcg1 := (Cmwc.out.at 1 rfl).1
            have mwcf1 := (Cmwc.out.at 1 rfl).2
            have mwcg2 := (Cmwc.out.at 2 rfl).1
            have mwcf2 := (Cmwc.out.at 2 rfl).2
            have mwcg3 := (Cmwc.out.at 3 rfl).1
            have mwcf3 := (Cmwc.out.at 3 rfl).2
            have mwcg4 := (Cmwc.out.at 4 rfl).1
            have mwcf4 := (Cmwc.out.at 4 rfl).2
            have mwcg5 := (Cmwc.out.at 5 rfl).1
            have mwcf5 := (Cmwc.out.at 5 rfl).2
            have mwcg6 := (Cmwc.out.at 6 rfl).1
            have mwcf6 := (Cmwc.out.at 6 rfl).2
            have lowc := Cowc.out.1
            have ltwc := Ctwc.out.1
            have lnwc := Cnwc.out.1
            have nwcg0 := (Cnwc.out.at 0 rfl).1
            have nwcg1 := (Cnwc.out.at 1 rfl).1
            have nwcg2 := (Cnwc.out.at 2 rfl).1
            have nwcg3 := (Cnwc.out.at 3 rfl).1
            have nwcg4 := (Cnwc.out.at 4 rfl).1
            have nwcg5 := (Cnwc.out.at 5 rfl).1
            have nwcg6 := (Cnwc.out.at 6 rfl).1
            go_wp2_with (fail)
            go_roundg (29 - j)
            case measure => omega
            case rel =>
              refine ⟨j + 1, by omega, by go_num, (ownsRow_setCell_below (ownsRow_setCell_below (ownsRow_setCell_below (ownsRow_setCell_below (ownsRow_setCell_below (ownsRow_setCell_below (ownsRow_setCell_below (HO1.out.after HBwc.out) (a := ⟨w1.heap.size, 0, none⟩) (by simp) _) (a := ⟨w1.heap.size, 1, none⟩) (by simp) _) (a := ⟨w1.heap.size, 2, none⟩) (by simp) _) (a := ⟨w1.heap.size, 3, none⟩) (by simp) _) (a := ⟨w1.heap.size, 4, none⟩) (by simp) _) (a := ⟨w1.heap.size, 5, none⟩) (by simp) _) (a := ⟨w1.heap.size, 6, none⟩) (by simp) _), ((((((((HBw.out.trans (HBwc.out.mono hsz1)).setCell (p := ⟨w1.heap.size, 0, none⟩) (by simp; omega) _).setCell (p := ⟨w1.heap.size, 1, none⟩) (by simp; omega) _).setCell (p := ⟨w1.heap.size, 2, none⟩) (by simp; omega) _).setCell (p := ⟨w1.heap.size, 3, none⟩) (by simp; omega) _).setCell (p := ⟨w1.heap.size, 4, none⟩) (by simp; omega) _).setCell (p := ⟨w1.heap.size, 5, none⟩) (by simp; omega) _).setCell (p := ⟨w1.heap.size, 6, none⟩) (by simp; omega) _), ?_, oth7 (by omega) Cowc.out, oth7 (by omega) Ctwc.out⟩
              rw [HJE.out]
              exact put7 Cmwc.out
        · obtain rfl : j = 30 := by omega
          have Cmwr : Hid (Cs wr (w1.heap.size) [.int .i64 me, .int .i64 0, .int .i64 0, .int .i64 0, .int .u64 0, .int .i64 0, .int .i64 0]) := Cmwr
          have lmwr := Cmwr.out.1
          have mwrg0 := (Cmwr.out.at 0 rfl).1
          have mwrg1 := (Cmwr.out.at 1 rfl).1
          have mwrg2 := (Cmwr.out.at 2 rfl).1
          have mwrg3 := (Cmwr.out.at 3 rfl).1
          have mwrg4 := (Cmwr.out.at 4 rfl).1
          have mwrg5 := (Cmwr.out.at 5 rfl).1
          have mwrg6 := (Cmwr.out.at 6 rfl).1
          have lowr := Cowr.out.1
          have owrg0 := (Cowr.out.at 0 rfl).1
          have ltwr := Ctwr.out.1
          have twrg0 := (Ctwr.out.at 0 rfl).1
          have twrg1 := (Ctwr.out.at 1 rfl).1
          have twrg2 := (Ctwr.out.at 2 rfl).1
          have twrg3 := (Ctwr.out.at 3 rfl).1
          go_wp2_with (fail)
          go_at_call 13
          refine (HLA.out _ _ _ HO1.out.read).mono ?_
          rintro e v1 ⟨rfl, hb⟩
          have hvz1 := hb.size
          try simp at hvz1
          have HBv1 : Hid (Below wr.heap.size wr v1) := Lib.hid (below_then' (by repeat (first | with_reducible exact Below.refl _ _ | with_reducible refine blw_alloc ?_ _ | with_reducible refine Below.drew ?_ | with_reducible refine blw_step ?_ _ | with_reducible refine Below.setCell (p := ⟨_, _, none⟩) ?_ (by first | exact Nat.le_refl _ | (simp; done) | (simp; omega) | omega) _)) hb)
          have Ctv1 : Hid (Cs v1 (w2.heap.size + 1) [.int .i64 0, .int .i64 ti, .int .i64 ta, .int .i64 tt]) := Lib.hid ((show Cs _ (w2.heap.size + 1) [.int .i64 0, .int .i64 ti, .int .i64 ta, .int .i64 tt] from (by (repeat (first | with_reducible exact Ctwr.out | (with_reducible refine Cs.new ?_; focus (first | rfl | (simp; done) | omega)) | with_reducible refine Cs.alloc ?_ _ | with_reducible refine Cs.drew ?_ | with_reducible refine Cs.drewN ?_ _ | (with_reducible refine Cs.other ?_ ?_ _; focus (first | omega | (simp; omega))) | with_reducible apply Cs.put)) <;> first | rfl | (simp; done))).after hb)
          clear mwrg0 mwrg1 mwrg2 mwrg3 mwrg4 mwrg5 mwrg6 owrg0 twrg0 twrg1 twrg2 twrg3 hb
          have ltv1 := Ctv1.out.1
          have tv1g0 := (Ctv1.out.at 0 rfl).1
          have tv1g1 := (Ctv1.out.at 1 rfl).1
          have tv1g2 := (Ctv1.out.at 2 rfl).1
          have tv1g3 := (Ctv1.out.at 3 rfl).1
          go_wp2
          go_ret
          exact ⟨by first | rfl | exact ret_bool (by simp), blw_alloc (HBw.out.trans (HBv1.out.mono hsz1)) _⟩
end Go.Proofs.Ytfdgjaahmbjnpaa.MeterLocks
