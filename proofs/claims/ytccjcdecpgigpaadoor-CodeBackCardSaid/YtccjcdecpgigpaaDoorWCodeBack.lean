/- The walk of CodeBack. -/
import Derived.Test.YtccjcdecpgigpaaDoorCode
import Derived.Test.YtccjcdecpgigpaaDoorMet5
namespace Go.Proofs.YtccjcdecpgigpaaDoor.CodeBack
open Go Go.RowKit Go.Proofs.YtccjcdecpgigpaaDoor.Base Go.Proofs.YtccjcdecpgigpaaDoor.Met Go.Proofs.YtccjcdecpgigpaaDoor.Win Go.Proofs.YtccjcdecpgigpaaDoor.Lay Go.Proofs.YtccjcdecpgigpaaDoor.Code
set_option linter.unusedVariables false
set_option linter.unusedSimpArgs false
set_option maxRecDepth 20000
theorem eql_shown (a0 a1 a2 : Int) (w : World) : (Op.equalIn 10000 44 (.agg #[.int .i64 a0, .int .i64 a1, .int .i64 a2]) (.agg #[.int .i64 a0, .int .i64 a1, .int .i64 a2])).run Tryd.prog w = .ok true w := by
  simp [go_sem]
/-- The meter with so high a window. -/
def highM (m : Mt) (h : Int) : Mt := if 0 < h then { m with wh := h, wb := 1 } else m
theorem high_good (x : Nw) (h : Int) (h0 : 0 ≤ h) (h1 : h ≤ 1048575) : (highM x.mt h).ok ∧ mmay (highM x.mt h) = true ∧ (highM x.mt h).wh = h ∧ (highM x.mt h).me = x.mt.me ∧ (highM x.mt h).cr = x.mt.cr := by
  obtain ⟨g1, g2⟩ := Nw.good x
  unfold highM
  by_cases hp : 0 < h
  · rw [if_pos hp]
    obtain ⟨m1, m2, m3⟩ := Met.mmay_lim g2
    have hw : wmay h 1 = true := by
      unfold wmay
      rw [if_neg (by omega), decide_eq_true h1]
      have : 1 < 2 ^ (min h.toNat 64) := Nat.one_lt_two_pow (by omega)
      simp [this]
    obtain ⟨o1, ⟨_, _⟩, o3⟩ := g1
    refine ⟨⟨o1, ⟨⟨by show -9223372036854775808 ≤ h; omega, by show h ≤ 9223372036854775807; omega⟩, by show (1 : Nat) < 18446744073709551616; omega⟩, o3⟩, mmay_of m1 m2 hw, rfl, rfl, rfl⟩
  · rw [if_neg hp]
    exact ⟨g1, g2, by show (0 : Int) = h; omega, rfl, rfl⟩
set_option maxHeartbeats 4000000 in
theorem walk (x : Nw) (cs : List Value) (high : Int) (w : World) (hx : cs = x.cs.toList ∧ x.ok) (w1 : (Lit.int .i64 high).wf = true) (hT : Tb w) :
    Calls Tryd.prog 5 #[.agg cs.toArray, .int .i64 high] w fun e w' => e = .returned (.bool true) ∧ Below w.heap.size w w' := by
  obtain ⟨rfl, xok⟩ := hx
  obtain ⟨a0, a1⟩ := i64_bound w1
  clear w1
  show Calls Tryd.prog 5 #[.agg x.cs, .int .i64 high] w _
  have HN := Lib.hid (fun W => newMeter_any x W xok)
  have HPK := Lib.hid (fun W => picked_any high 1048576 W a0 a1 (by omega))
  obtain ⟨p0, p1⟩ := pk_bound high 1048576 (by decide)
  obtain ⟨h, hh⟩ : ∃ h, h = pk high 1048576 := ⟨_, rfl⟩
  rw [← hh] at HPK p0 p1
  obtain ⟨k1, k2, k3, k4, k5⟩ := high_good x h p0 (by omega)
  have HC := Lib.hid (fun W hW => Code_yes (highM x.mt h) W k1 k2 hW)
  obtain ⟨⟨l1, l2⟩, ⟨l3, l4⟩, l5, l6⟩ := Code.mmay_lim k2
  have HR := Lib.hid (fun W => Read_good (bs (codeL (mcode (highM x.mt h)))) (highM x.mt h).me.toNat (highM x.mt h).cr.toNat (highM x.mt h).wh.toNat W (by omega) (by omega) (by omega) rfl)
  rw [show (((highM x.mt h).me.toNat : Nat) : Int) = (highM x.mt h).me by omega, show (((highM x.mt h).cr.toNat : Nat) : Int) = (highM x.mt h).cr by omega, show (((highM x.mt h).wh.toNat : Nat) : Int) = (highM x.mt h).wh by omega] at HR
  have hz : (bs (codeL (mcode (highM x.mt h)))).size = 18 := by rw [bs_size, code_len _ (mcode_int k2).2]
  rw [k3, k4, k5] at HR
  generalize bs (codeL (mcode (highM x.mt h))) = S at *
  have hz2 : (S.size : Int) = 18 := by omega
  have hm : x.mt = ⟨x.mt.me, x.mt.rev, x.mt.cr, 0, 0, x.mt.bad, 0⟩ := rfl
  unfold highM at HC
  generalize x.mt = m at *
  obtain ⟨me, rev, cr, wh, wb, bad, lock⟩ := m
  simp only [Mt.mk.injEq] at hm
  obtain ⟨_, _, _, rfl, rfl, _, rfl⟩ := hm
  clear k1 k2 k3 k4 k5 l1 l2 l3 l4 l5 l6 hz xok hh
  have HT := Lib.hid hT
  clear hT
  obtain ⟨na, nb, nc, nd⟩ := x
  unfold Nw.cs Mt.vals at *
  simp only at HN HC HR ⊢
  by_cases hp : 0 < h
  · rw [if_pos hp] at HC
    simp only at HC
    go_enter Tryd.func5, Tryd.ntmps5
    go_wp2_with (fail)
    go_at_call 20
    refine (HN.out _).mono ?_
    rintro e w1 ⟨rfl, hb⟩
    have hwz1 := hb.size
    try simp at hwz1
    have HBw1 : Hid (Below w.heap.size w w1) := Lib.hid (below_then' (by repeat (first | with_reducible exact Below.refl _ _ | with_reducible refine blw_alloc ?_ _ | with_reducible refine Below.drew ?_ | with_reducible refine blw_step ?_ _ | with_reducible refine Below.setCell (p := ⟨_, _, none⟩) ?_ (by first | exact Nat.le_refl _ | (simp; done) | (simp; omega) | omega) _)) hb)
    clear hb
    have T1 := Lib.hid (tb_below HT.out HBw1.out)
    go_wp2_with fail
    go_at_call 17
    refine (HPK.out _).mono ?_
    rintro e w' ⟨rfl, rfl⟩
    go_wp2_with fail
    go_at_call 21
    refine (HC.out _ (tb_below T1.out (by repeat (first | with_reducible exact Below.refl _ _ | with_reducible refine blw_alloc ?_ _ | with_reducible refine Below.drew ?_ | with_reducible refine blw_step ?_ _ | with_reducible refine Below.setCell (p := ⟨_, _, none⟩) ?_ (by first | exact Nat.le_refl _ | (simp; done) | (simp; omega) | omega) _)))).mono ?_
    rintro e w2 ⟨rfl, hb⟩
    have HBw2 : Hid (Below w.heap.size w w2) := Lib.hid (below_then' (by repeat (first | with_reducible exact HBw1.out | with_reducible refine blw_alloc ?_ _ | with_reducible refine Below.drew ?_ | with_reducible refine blw_step ?_ _ | with_reducible refine Below.setCell (p := ⟨_, _, none⟩) ?_ (by first | exact Nat.le_refl _ | (simp; done) | (simp; omega) | omega) _)) hb)
    have Cmw2 : Hid (Cs w2 (w1.heap.size) [.int .i64 me, .int .i64 rev, .int .i64 cr, .int .i64 h, .int .u64 1, .int .i64 bad, .int .i64 0]) := Lib.hid ((show Cs _ (w1.heap.size) [.int .i64 me, .int .i64 rev, .int .i64 cr, .int .i64 h, .int .u64 1, .int .i64 bad, .int .i64 0] from (by (repeat (first | (with_reducible refine Cs.new ?_; focus (first | rfl | (simp; done) | omega)) | with_reducible refine Cs.alloc ?_ _ | with_reducible refine Cs.drew ?_ | with_reducible refine Cs.drewN ?_ _ | (with_reducible refine Cs.other ?_ ?_ _; focus (first | omega | (simp; omega))) | with_reducible apply Cs.put)) <;> first | rfl | (simp; done))).after hb)
    have lw1 := HBw1.out.size
    clear hb
    have lm := Cmw2.out.1
    have mg0 := (Cmw2.out.at 0 rfl).1
    have mg1 := (Cmw2.out.at 1 rfl).1
    have mg2 := (Cmw2.out.at 2 rfl).1
    have mg3 := (Cmw2.out.at 3 rfl).1
    have mg4 := (Cmw2.out.at 4 rfl).1
    have mg5 := (Cmw2.out.at 5 rfl).1
    have mg6 := (Cmw2.out.at 6 rfl).1
    go_wp2_with fail
    go_at_call 22
    refine (HR.out _).mono ?_
    rintro e w3 ⟨rfl, hb⟩
    have HBw3 : Hid (Below w.heap.size w w3) := Lib.hid (below_then' HBw2.out hb)
    have Cmw3 := Lib.hid (Cmw2.out.after hb)
    clear hb mg0 mg1 mg2 mg3 mg4 mg5 mg6
    have lm3 := Cmw3.out.1
    have mh0 := (Cmw3.out.at 0 rfl).1
    have mh1 := (Cmw3.out.at 1 rfl).1
    have mh2 := (Cmw3.out.at 2 rfl).1
    have mh3 := (Cmw3.out.at 3 rfl).1
    have mh4 := (Cmw3.out.at 4 rfl).1
    have mh5 := (Cmw3.out.at 5 rfl).1
    have mh6 := (Cmw3.out.at 6 rfl).1
    have heq : ∀ W, (Op.equalIn 10000 44 (.agg #[.int .i64 me, .int .i64 cr, .int .i64 h]) (.agg #[.int .i64 me, .int .i64 cr, .int .i64 h])).run Tryd.prog W = .ok true W := fun W => eql_shown _ _ _ W
    go_wp2_with fail
    go_ret
    exact ⟨rfl, blw_alloc HBw3.out _⟩
  · rw [if_neg hp] at HC
    simp only at HC
    obtain rfl : h = 0 := by omega
    go_enter Tryd.func5, Tryd.ntmps5
    go_wp2_with (fail)
    go_at_call 20
    refine (HN.out _).mono ?_
    rintro e w1 ⟨rfl, hb⟩
    have hwz1 := hb.size
    try simp at hwz1
    have HBw1 : Hid (Below w.heap.size w w1) := Lib.hid (below_then' (by repeat (first | with_reducible exact Below.refl _ _ | with_reducible refine blw_alloc ?_ _ | with_reducible refine Below.drew ?_ | with_reducible refine blw_step ?_ _ | with_reducible refine Below.setCell (p := ⟨_, _, none⟩) ?_ (by first | exact Nat.le_refl _ | (simp; done) | (simp; omega) | omega) _)) hb)
    clear hb
    have T1 := Lib.hid (tb_below HT.out HBw1.out)
    go_wp2_with fail
    go_at_call 17
    refine (HPK.out _).mono ?_
    rintro e w' ⟨rfl, rfl⟩
    go_wp2_with fail
    go_at_call 21
    refine (HC.out _ (tb_below T1.out (by repeat (first | with_reducible exact Below.refl _ _ | with_reducible refine blw_alloc ?_ _ | with_reducible refine Below.drew ?_ | with_reducible refine blw_step ?_ _ | with_reducible refine Below.setCell (p := ⟨_, _, none⟩) ?_ (by first | exact Nat.le_refl _ | (simp; done) | (simp; omega) | omega) _)))).mono ?_
    rintro e w2 ⟨rfl, hb⟩
    have HBw2 : Hid (Below w.heap.size w w2) := Lib.hid (below_then' (by repeat (first | with_reducible exact HBw1.out | with_reducible refine blw_alloc ?_ _ | with_reducible refine Below.drew ?_ | with_reducible refine blw_step ?_ _ | with_reducible refine Below.setCell (p := ⟨_, _, none⟩) ?_ (by first | exact Nat.le_refl _ | (simp; done) | (simp; omega) | omega) _)) hb)
    have Cmw2 : Hid (Cs w2 (w1.heap.size) [.int .i64 me, .int .i64 rev, .int .i64 cr, .int .i64 0, .int .u64 0, .int .i64 bad, .int .i64 0]) := Lib.hid ((show Cs _ (w1.heap.size) [.int .i64 me, .int .i64 rev, .int .i64 cr, .int .i64 0, .int .u64 0, .int .i64 bad, .int .i64 0] from (by (repeat (first | (with_reducible refine Cs.new ?_; focus (first | rfl | (simp; done) | omega)) | with_reducible refine Cs.alloc ?_ _ | with_reducible refine Cs.drew ?_ | with_reducible refine Cs.drewN ?_ _ | (with_reducible refine Cs.other ?_ ?_ _; focus (first | omega | (simp; omega))) | with_reducible apply Cs.put)) <;> first | rfl | (simp; done))).after hb)
    have lw1 := HBw1.out.size
    clear hb
    have lm := Cmw2.out.1
    have mg0 := (Cmw2.out.at 0 rfl).1
    have mg1 := (Cmw2.out.at 1 rfl).1
    have mg2 := (Cmw2.out.at 2 rfl).1
    have mg3 := (Cmw2.out.at 3 rfl).1
    have mg4 := (Cmw2.out.at 4 rfl).1
    have mg5 := (Cmw2.out.at 5 rfl).1
    have mg6 := (Cmw2.out.at 6 rfl).1
    go_wp2_with fail
    go_at_call 22
    refine (HR.out _).mono ?_
    rintro e w3 ⟨rfl, hb⟩
    have HBw3 : Hid (Below w.heap.size w w3) := Lib.hid (below_then' HBw2.out hb)
    have Cmw3 := Lib.hid (Cmw2.out.after hb)
    clear hb mg0 mg1 mg2 mg3 mg4 mg5 mg6
    have lm3 := Cmw3.out.1
    have mh0 := (Cmw3.out.at 0 rfl).1
    have mh1 := (Cmw3.out.at 1 rfl).1
    have mh2 := (Cmw3.out.at 2 rfl).1
    have mh3 := (Cmw3.out.at 3 rfl).1
    have mh4 := (Cmw3.out.at 4 rfl).1
    have mh5 := (Cmw3.out.at 5 rfl).1
    have mh6 := (Cmw3.out.at 6 rfl).1
    have heq : ∀ W, (Op.equalIn 10000 44 (.agg #[.int .i64 me, .int .i64 cr, .int .i64 0]) (.agg #[.int .i64 me, .int .i64 cr, .int .i64 0])).run Tryd.prog W = .ok true W := fun W => eql_shown _ _ _ W
    go_wp2_with fail
    go_ret
    exact ⟨rfl, blw_alloc HBw3.out _⟩
end Go.Proofs.YtccjcdecpgigpaaDoor.CodeBack
