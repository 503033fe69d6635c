/- The walk of PocketBurns. -/
import Derived.Test.YtccjcdecpgigpaaDoorPock6
namespace Go.Proofs.YtccjcdecpgigpaaDoor.PocketBurns
open Go Go.RowKit Go.Proofs.YtccjcdecpgigpaaDoor.Base Go.Proofs.YtccjcdecpgigpaaDoor.Met Go.Proofs.YtccjcdecpgigpaaDoor.Win Go.Proofs.YtccjcdecpgigpaaDoor.Cell Go.Proofs.YtccjcdecpgigpaaDoor.Orc Go.Proofs.YtccjcdecpgigpaaDoor.Tok Go.Proofs.YtccjcdecpgigpaaDoor.Pock
set_option linter.unusedVariables false
set_option linter.unusedSimpArgs false
set_option maxRecDepth 20000
set_option maxHeartbeats 8000000 in
theorem walk (me units load k : Int) (w : World) (w1 : (Lit.int .i64 me).wf = true) (w2 : (Lit.int .i64 units).wf = true) (w3 : (Lit.int .i64 load).wf = true) (w4 : (Lit.int .i64 k).wf = true) :
    Calls Tryd.prog 13 #[.int .i64 me, .int .i64 units, .int .i64 load, .int .i64 k] w fun e w' => e = .returned (.bool true) ∧ Below w.heap.size w w' := by
  obtain ⟨m0, m1⟩ := i64_bound w1
  obtain ⟨u0, u1⟩ := i64_bound w2
  obtain ⟨l0, l1⟩ := i64_bound w3
  obtain ⟨k0, k1⟩ := i64_bound w4
  clear w1 w2 w3 w4
  have HPM := Lib.hid (fun W => picked_any me 50 W m0 m1 (by omega))
  obtain ⟨p0, p1⟩ := pk_bound me 50 (by decide)
  have HPL := Lib.hid (fun W => picked_any load 1001 W l0 l1 (by omega))
  obtain ⟨q0, q1⟩ := pk_bound load 1001 (by decide)
  have HPU := Lib.hid (fun W => picked_any units 2097151 W u0 u1 (by omega))
  obtain ⟨r0, r1⟩ := pk_bound units 2097151 (by decide)
  have HPK := Lib.hid (fun W => picked_any k 8 W k0 k1 (by omega))
  obtain ⟨s0, s1⟩ := pk_bound k 8 (by decide)
  obtain ⟨cut, hcut⟩ := Int.eq_ofNat_of_zero_le s0
  rw [hcut] at HPK s1
  obtain ⟨t1, t2⟩ := one_state (pk me 50) units p0 p1
  generalize pk me 50 = me' at *
  generalize pk load 1001 = use at *
  have hx : (⟨0, 0, units, 0⟩ : Tk).ok := ⟨⟨⟨by show -9223372036854775808 ≤ (0 : Int); omega, by show (0 : Int) ≤ 9223372036854775807; omega⟩, ⟨by show -9223372036854775808 ≤ (0 : Int); omega, by show (0 : Int) ≤ 9223372036854775807; omega⟩⟩, ⟨u0, u1⟩, ⟨by show -9223372036854775808 ≤ (0 : Int); omega, by show (0 : Int) ≤ 9223372036854775807; omega⟩⟩
  have HAT := Lib.hid (fun L W hL => pocketAt_any me' [⟨0, 0, units, 0⟩] L 1 W p0 p1 hL (by intro t ht; rw [List.mem_singleton] at ht; rw [ht]; exact hx))
  rw [show List.take 12 [(⟨0, 0, units, 0⟩ : Tk)] = [⟨0, 0, units, 0⟩] from rfl] at HAT
  generalize (pockS me' [⟨0, 0, units, 0⟩]).2 = ps at *
  generalize (pockS me' [⟨0, 0, units, 0⟩]).1 = m at *
  generalize pk units 2097151 = v at *
  have HTK := Lib.hid (fun c B p W s hc hk hs hq => Ticked_any c m use s B p W hc hk hs hq q0 (by omega))
  have HBT := Lib.hid (fun c m A q W hc hk hq => Boot_any c m A q W hc hk hq)
  have HCP := Lib.hid (fun c s next k hk hs hl => cut_pk (c := c) (s := s) (old := m) (next := next) (k := k) hk hs hl)
  have HMP := Lib.hid (fun c s next hk hs ok hm => moved_pk (c := c) (s := s) (old := m) (next := next) hk hs ok hm)
  have hin := Lib.hid (fun c s next hc hs => moved_in (c := c) (s := s) (old := m) (next := next) hc hs)
  have hkeep := Lib.hid (fun ok hm => tick_keep m use ok hm q0)
  by_cases hz : use = 0
  · subst hz
    go_enter Tryd.func13, Tryd.ntmps13
    go_wp2_with fail
    go_at_call 17
    refine (HPM.out _).mono ?_
    rintro e w' ⟨rfl, rfl⟩
    go_wp2_with (fail)
    go_at_call 32
    refine (HAT.out (some ⟨w.heap.size, 0, none⟩) _ (rd_raw (Cs.new rfl))).mono ?_
    rintro e w1 ⟨c, B, p, O, oq, rfl, hpk, ho, _, hb⟩
    have hwz1 := hb.size
    try simp at hwz1
    have HBw1 : Hid (Below w.heap.size w w1) := Lib.hid (below_then' (by repeat (first | with_reducible exact Below.refl _ _ | with_reducible refine blw_alloc ?_ _ | with_reducible refine Below.drew ?_ | with_reducible refine blw_step ?_ _ | with_reducible refine Below.setCell (p := ⟨_, _, none⟩) ?_ (by first | exact Nat.le_refl _ | (simp; done) | (simp; omega) | omega) _)) hb)
    have hcap := own_cap ho
    have HPKc := Lib.hid hpk
    have HWB := Lib.hid (fun (W : World) (h : Below w1.heap.size w1 W) => ho.read.below h)
    clear ho hpk
    clear hb
    have hs1 := HBw1.out.size
    go_wp2_with fail
    go_at_call 17
    refine (HPL.out _).mono ?_
    rintro e w' ⟨rfl, rfl⟩
    obtain ⟨s, hs⟩ := HPKc.out.newer
    have hcl := HPKc.out.len
    have HT2 := Lib.hid (fun W hc => HTK.out c B p W s hc HPKc.out hs hcap)
    have HB2 := Lib.hid (fun W hc => HBT.out c m B p W hc HPKc.out hcap)
    have hmi : min 0 m.cr = 0 := by rw [t1]; omega
    rw [tick_eq m 0 t2 hmi, hmi] at HT2
    have hmv : movedW c s m m = [] := by unfold movedW; rw [(eqM_iff m m).2 rfl, if_pos rfl]
    rw [hmv] at HT2
    clear hmi hmv
    clear HTK HBT HMP HCP hin hkeep hs hcl
    obtain ⟨a0, a1, a2, a3, a4, a5, a6⟩ := m
    simp only at t1 t2
    subst t1 t2
    unfold Mt.vals at *
    simp only at HB2 HT2
    clear HPKc
    go_wp2_with (fail)
    go_at_call 26
    refine (HB2.out _ (HWB.out _ (by repeat (first | with_reducible exact Below.refl _ _ | with_reducible refine blw_alloc ?_ _ | with_reducible refine Below.drew ?_ | with_reducible refine blw_step ?_ _ | with_reducible refine Below.setCell (p := ⟨_, _, none⟩) ?_ (by first | exact Nat.le_refl _ | (simp; done) | (simp; omega) | omega) _)))).mono ?_
    rintro e w2 ⟨rfl, hb⟩
    have hwz2 := hb.size
    try simp at hwz2
    have HBw2 : Hid (Below w.heap.size w w2) := Lib.hid (below_then' (by repeat (first | with_reducible exact HBw1.out | with_reducible refine blw_alloc ?_ _ | with_reducible refine Below.drew ?_ | with_reducible refine blw_step ?_ _ | with_reducible refine Below.setCell (p := ⟨_, _, none⟩) ?_ (by first | exact Nat.le_refl _ | (simp; done) | (simp; omega) | omega) _)) hb)
    have hw12 : Hid (Below w1.heap.size w1 w2) := Lib.hid (below_then' (by repeat (first | with_reducible exact Below.refl _ _ | with_reducible refine blw_alloc ?_ _ | with_reducible refine Below.drew ?_ | with_reducible refine blw_step ?_ _ | with_reducible refine Below.setCell (p := ⟨_, _, none⟩) ?_ (by first | exact Nat.le_refl _ | (simp; done) | (simp; omega) | omega) _)) hb)
    clear hb
    have hs2 := HBw2.out.size
    go_wp2_with (fail)
    go_at_call 35
    refine (HT2.out _ (HWB.out _ (by repeat (first | with_reducible exact hw12.out | with_reducible refine blw_alloc ?_ _ | with_reducible refine Below.drew ?_ | with_reducible refine blw_step ?_ _ | with_reducible refine Below.setCell (p := ⟨_, _, none⟩) ?_ (by first | exact Nat.le_refl _ | (simp; done) | (simp; omega) | omega) _)))).mono ?_
    rintro e w3 ⟨G, g, rfl, hg, hb⟩
    have hwz3 := hb.size
    try simp at hwz3
    have HBw3 : Hid (Below w.heap.size w w3) := Lib.hid (below_then' (by repeat (first | with_reducible exact HBw2.out | with_reducible refine blw_alloc ?_ _ | with_reducible refine Below.drew ?_ | with_reducible refine blw_step ?_ _ | with_reducible refine Below.setCell (p := ⟨_, _, none⟩) ?_ (by first | exact Nat.le_refl _ | (simp; done) | (simp; omega) | omega) _)) hb)
    have Cmw3 : Hid (Cs w3 (w2.heap.size) [.int .i64 a0, .int .i64 a1, .int .i64 (1 + v), .int .i64 a3, .int .u64 (a4 : Int), .int .i64 a5, .int .i64 0]) := Lib.hid ((show Cs _ (w2.heap.size) [.int .i64 a0, .int .i64 a1, .int .i64 (1 + v), .int .i64 a3, .int .u64 (a4 : Int), .int .i64 a5, .int .i64 0] from (by (repeat (first | (with_reducible refine Cs.new ?_; focus (first | rfl | (simp; done) | omega)) | with_reducible refine Cs.alloc ?_ _ | with_reducible refine Cs.drew ?_ | with_reducible refine Cs.drewN ?_ _ | (with_reducible refine Cs.other ?_ ?_ _; focus (first | omega | (simp; done) | (simp; omega))) | with_reducible apply Cs.put)) <;> first | rfl | (simp; done))).after hb)
    have hw13 : Hid (Below w1.heap.size w1 w3) := Lib.hid (below_then' (by repeat (first | with_reducible exact hw12.out | with_reducible refine blw_alloc ?_ _ | with_reducible refine Below.drew ?_ | with_reducible refine blw_step ?_ _ | with_reducible refine Below.setCell (p := ⟨_, _, none⟩) ?_ (by first | exact Nat.le_refl _ | (simp; done) | (simp; omega) | omega) _)) hb)
    have HG := Lib.hid hg.read
    have hgc := own_cap hg
    clear hg
    clear hb
    have lmw3 := Cmw3.out.1
    have mw3g0 := (Cmw3.out.at 0 rfl).1
    have mw3g1 := (Cmw3.out.at 1 rfl).1
    have mw3g2 := (Cmw3.out.at 2 rfl).1
    have mw3g3 := (Cmw3.out.at 3 rfl).1
    have mw3g4 := (Cmw3.out.at 4 rfl).1
    have mw3g5 := (Cmw3.out.at 5 rfl).1
    have mw3g6 := (Cmw3.out.at 6 rfl).1
    have wv : IntKind.i64.wrap (1 + v) = 1 + v := by rw [IntKind.wrap_i64]; omega
    have hm0 : min (0 : Int) (1 + v) = 0 := by omega
    go_upto_region 7 with fail
    go_quiet ((go_at_call 17; exact quiet_same (HPU.out _)))
    have HBq : Hid (Below w.heap.size w (w3.drewN nq)) := Lib.hid (blw_step HBw3.out nq)
    have Cmq := Lib.hid (Cmw3.out.drewN nq)
    clear mw3g0 mw3g1 mw3g2 mw3g3 mw3g4 mw3g5 mw3g6
    go_wp2_with fail
    go_ret
    exact ⟨rfl, HBq.out⟩
  · go_enter Tryd.func13, Tryd.ntmps13
    go_wp2_with fail
    go_at_call 17
    refine (HPM.out _).mono ?_
    rintro e w' ⟨rfl, rfl⟩
    go_wp2_with (fail)
    go_at_call 32
    refine (HAT.out (some ⟨w.heap.size, 0, none⟩) _ (rd_raw (Cs.new rfl))).mono ?_
    rintro e w1 ⟨c, B, p, O, oq, rfl, hpk, ho, _, hb⟩
    have hwz1 := hb.size
    try simp at hwz1
    have HBw1 : Hid (Below w.heap.size w w1) := Lib.hid (below_then' (by repeat (first | with_reducible exact Below.refl _ _ | with_reducible refine blw_alloc ?_ _ | with_reducible refine Below.drew ?_ | with_reducible refine blw_step ?_ _ | with_reducible refine Below.setCell (p := ⟨_, _, none⟩) ?_ (by first | exact Nat.le_refl _ | (simp; done) | (simp; omega) | omega) _)) hb)
    have hcap := own_cap ho
    have HPKc := Lib.hid hpk
    have HWB := Lib.hid (fun (W : World) (h : Below w1.heap.size w1 W) => ho.read.below h)
    clear ho hpk
    clear hb
    have hs1 := HBw1.out.size
    go_wp2_with fail
    go_at_call 17
    refine (HPL.out _).mono ?_
    rintro e w' ⟨rfl, rfl⟩
    obtain ⟨s, hs⟩ := HPKc.out.newer
    have hcl := HPKc.out.len
    have HT2 := Lib.hid (fun W hc => HTK.out c B p W s hc HPKc.out hs hcap)
    have HB2 := Lib.hid (fun W hc => HBT.out c m B p W hc HPKc.out hcap)
    have hne : m ≠ tickM m use := fun h => by
      have h2 := congrArg Mt.cr h
      have h3 : m.cr = m.cr - min use m.cr := h2
      omega
    have h7 := moved_full (c := c) (s := s) hne
    obtain ⟨g1, g2⟩ := hkeep.out HPKc.out.ok HPKc.out.may
    have hpk2 := HMP.out c s (tickM m use) HPKc.out hs g1 g2
    have hcutf := HCP.out c s (tickM m use) cut HPKc.out hs
    have hin2 := hin.out c s (tickM m use) hcl (newer_lt hs)
    have HAP := Lib.hid (fun G g W hc hw hg => apply_any c (movedW c s m (tickM m use)) cut (cut : Int) B G p g W hc hw (by omega) (by omega) (by omega) hg hin2 rfl (by omega))
    have hk2 : ∃ m2 : Mt, Pk (applyL c ((movedW c s m (tickM m use)).take cut)) m2 ∧ m2.wh = m.wh ∧ m2.wb = m.wb ∧ m2.cr = if cut = 7 then m.cr - min use m.cr else m.cr := by
      by_cases hc7 : cut = 7
      · rw [List.take_of_length_le (by omega)]
        exact ⟨_, hpk2, rfl, rfl, by rw [if_pos hc7]; rfl⟩
      · exact ⟨m, hcutf (by omega), rfl, rfl, by rw [if_neg hc7]⟩
    obtain ⟨m2, hk2, w2a, w2b, w2c⟩ := hk2
    have hc2l := hk2.len
    have HB3 := Lib.hid (fun E eq W hc hq => HBT.out (applyL c ((movedW c s m (tickM m use)).take cut)) m2 E eq W hc hk2 hq)
    generalize applyL c ((movedW c s m (tickM m use)).take cut) = c2 at *
    generalize movedW c s m (tickM m use) = MW at *
    obtain ⟨b0, b1, b2, b3, b4, b5, b6⟩ := m2
    simp only at w2a w2b w2c
    have hmi : min use m.cr = min use (1 + v) := by rw [t1]
    rw [hmi] at HT2 w2c
    rw [t1] at w2c
    have hmi1 : 1 ≤ min use (1 + v) := by omega
    have hmi2 : min use (1 + v) ≤ 1 + v := by omega
    clear HTK HBT HMP HCP hin hkeep hs hne g1 g2 hpk2 hcutf hin2 hk2 hmi
    have HCL := Lib.hid hcl
    have HC2L := Lib.hid hc2l
    have H7 := Lib.hid h7
    clear hcl hc2l h7
    obtain ⟨a0, a1, a2, a3, a4, a5, a6⟩ := m
    simp only at t1 t2 w2a w2b
    subst t1 t2
    have w2a := w2a.symm
    have w2b := w2b.symm
    subst w2a w2b
    unfold Mt.vals at *
    simp only at HB2 HT2 HB3
    have HMM : Hid (min use (1 + v) = min use (1 + v)) := Lib.hid rfl
    clear HMM
    go_wp2_with (fail)
    go_at_call 26
    refine (HB2.out _ (HWB.out _ (by repeat (first | with_reducible exact Below.refl _ _ | with_reducible refine blw_alloc ?_ _ | with_reducible refine Below.drew ?_ | with_reducible refine blw_step ?_ _ | with_reducible refine Below.setCell (p := ⟨_, _, none⟩) ?_ (by first | exact Nat.le_refl _ | (simp; done) | (simp; omega) | omega) _)))).mono ?_
    rintro e w2 ⟨rfl, hb⟩
    have hwz2 := hb.size
    try simp at hwz2
    have HBw2 : Hid (Below w.heap.size w w2) := Lib.hid (below_then' (by repeat (first | with_reducible exact HBw1.out | with_reducible refine blw_alloc ?_ _ | with_reducible refine Below.drew ?_ | with_reducible refine blw_step ?_ _ | with_reducible refine Below.setCell (p := ⟨_, _, none⟩) ?_ (by first | exact Nat.le_refl _ | (simp; done) | (simp; omega) | omega) _)) hb)
    have hw12 : Hid (Below w1.heap.size w1 w2) := Lib.hid (below_then' (by repeat (first | with_reducible exact Below.refl _ _ | with_reducible refine blw_alloc ?_ _ | with_reducible refine Below.drew ?_ | with_reducible refine blw_step ?_ _ | with_reducible refine Below.setCell (p := ⟨_, _, none⟩) ?_ (by first | exact Nat.le_refl _ | (simp; done) | (simp; omega) | omega) _)) hb)
    clear hb
    have hs2 := HBw2.out.size
    go_wp2_with (fail)
    go_at_call 35
    refine (HT2.out _ (HWB.out _ (by repeat (first | with_reducible exact hw12.out | with_reducible refine blw_alloc ?_ _ | with_reducible refine Below.drew ?_ | with_reducible refine blw_step ?_ _ | with_reducible refine Below.setCell (p := ⟨_, _, none⟩) ?_ (by first | exact Nat.le_refl _ | (simp; done) | (simp; omega) | omega) _)))).mono ?_
    rintro e w3 ⟨G, g, rfl, hg, hb⟩
    have hwz3 := hb.size
    try simp at hwz3
    have HBw3 : Hid (Below w.heap.size w w3) := Lib.hid (below_then' (by repeat (first | with_reducible exact HBw2.out | with_reducible refine blw_alloc ?_ _ | with_reducible refine Below.drew ?_ | with_reducible refine blw_step ?_ _ | with_reducible refine Below.setCell (p := ⟨_, _, none⟩) ?_ (by first | exact Nat.le_refl _ | (simp; done) | (simp; omega) | omega) _)) hb)
    have Cmw3 : Hid (Cs w3 (w2.heap.size) [.int .i64 a0, .int .i64 a1, .int .i64 (1 + v), .int .i64 a3, .int .u64 (a4 : Int), .int .i64 a5, .int .i64 0]) := Lib.hid ((show Cs _ (w2.heap.size) [.int .i64 a0, .int .i64 a1, .int .i64 (1 + v), .int .i64 a3, .int .u64 (a4 : Int), .int .i64 a5, .int .i64 0] from (by (repeat (first | (with_reducible refine Cs.new ?_; focus (first | rfl | (simp; done) | omega)) | with_reducible refine Cs.alloc ?_ _ | with_reducible refine Cs.drew ?_ | with_reducible refine Cs.drewN ?_ _ | (with_reducible refine Cs.other ?_ ?_ _; focus (first | omega | (simp; done) | (simp; omega))) | with_reducible apply Cs.put)) <;> first | rfl | (simp; done))).after hb)
    have hw13 : Hid (Below w1.heap.size w1 w3) := Lib.hid (below_then' (by repeat (first | with_reducible exact hw12.out | with_reducible refine blw_alloc ?_ _ | with_reducible refine Below.drew ?_ | with_reducible refine blw_step ?_ _ | with_reducible refine Below.setCell (p := ⟨_, _, none⟩) ?_ (by first | exact Nat.le_refl _ | (simp; done) | (simp; omega) | omega) _)) hb)
    have HG := Lib.hid hg.read
    have hgc := own_cap hg
    clear hg
    clear hb
    have lmw3 := Cmw3.out.1
    have mw3g0 := (Cmw3.out.at 0 rfl).1
    have mw3g1 := (Cmw3.out.at 1 rfl).1
    have mw3g2 := (Cmw3.out.at 2 rfl).1
    have mw3g3 := (Cmw3.out.at 3 rfl).1
    have mw3g4 := (Cmw3.out.at 4 rfl).1
    have mw3g5 := (Cmw3.out.at 5 rfl).1
    have mw3g6 := (Cmw3.out.at 6 rfl).1
    have wv : IntKind.i64.wrap (1 + v) = 1 + v := by rw [IntKind.wrap_i64]; omega
    have hz1 : ((MW.length : Int) == 0) = false := beq_eq_false_iff_ne.mpr (by have := H7.out; omega)
    have hz2 : (min use (1 + v) == 0) = false := beq_eq_false_iff_ne.mpr (by omega)
    have hz3 : (MW.length == 0) = false := beq_eq_false_iff_ne.mpr (by have := H7.out; omega)
    go_upto_region 7 with fail
    go_quiet ((go_at_call 17; exact quiet_same (HPU.out _)))
    have HBq : Hid (Below w.heap.size w (w3.drewN nq)) := Lib.hid (blw_step HBw3.out nq)
    have Cmq := Lib.hid (Cmw3.out.drewN nq)
    clear mw3g0 mw3g1 mw3g2 mw3g3 mw3g4 mw3g5 mw3g6
    have HCq := Lib.hid (HWB.out (w3.drewN nq) (blw_step hw13.out nq))
    have HGq := Lib.hid (HG.out.below (blw_drewN _ _ nq))
    generalize w3.drewN nq = u at *
    have lmu := Cmq.out.1
    have l7 : IntKind.i64.wrap ((MW.length : Int) + 1) = 8 := by have := H7.out; rw [this]; rfl
    have l8 : (MW.length : Int) + 1 = 8 := by have := H7.out; omega
    skip
    go_wp2_with fail
    go_at_call 17
    refine (HPK.out _).mono ?_
    rintro e w' ⟨rfl, rfl⟩
    clear l7 l8
    go_wp2_with (fail)
    go_at_call 25
    refine (HAP.out G g _ HCq.out HGq.out hgc).mono ?_
    rintro e x1 ⟨E, eq, rfl, ho, hb⟩
    have hxz1 := hb.size
    try simp at hxz1
    have HBx1 : Hid (Below w.heap.size w x1) := Lib.hid (below_then' (by repeat (first | with_reducible exact HBq.out | with_reducible refine blw_alloc ?_ _ | with_reducible refine Below.drew ?_ | with_reducible refine blw_step ?_ _ | with_reducible refine Below.setCell (p := ⟨_, _, none⟩) ?_ (by first | exact Nat.le_refl _ | (simp; done) | (simp; omega) | omega) _)) hb)
    have Cmx1 : Hid (Cs x1 (w2.heap.size) [.int .i64 a0, .int .i64 a1, .int .i64 (1 + v), .int .i64 a3, .int .u64 (a4 : Int), .int .i64 a5, .int .i64 0]) := Lib.hid ((show Cs _ (w2.heap.size) [.int .i64 a0, .int .i64 a1, .int .i64 (1 + v), .int .i64 a3, .int .u64 (a4 : Int), .int .i64 a5, .int .i64 0] from (by (repeat (first | with_reducible exact Cmq.out | (with_reducible refine Cs.new ?_; focus (first | rfl | (simp; done) | omega)) | with_reducible refine Cs.alloc ?_ _ | with_reducible refine Cs.drew ?_ | with_reducible refine Cs.drewN ?_ _ | (with_reducible refine Cs.other ?_ ?_ _; focus (first | omega | (simp; done) | (simp; omega))) | with_reducible apply Cs.put)) <;> first | rfl | (simp; done))).after hb)
    have HE := Lib.hid ho.read
    have hec := own_cap ho
    clear ho
    clear hb
    have lmx1 := Cmx1.out.1
    go_wp2_with (fail)
    go_at_call 26
    refine (HB3.out E eq _ HE.out hec).mono ?_
    rintro e x2 ⟨rfl, hb⟩
    have hxz2 := hb.size
    try simp at hxz2
    have HBx2 : Hid (Below w.heap.size w x2) := Lib.hid (below_then' (by repeat (first | with_reducible exact HBx1.out | with_reducible refine blw_alloc ?_ _ | with_reducible refine Below.drew ?_ | with_reducible refine blw_step ?_ _ | with_reducible refine Below.setCell (p := ⟨_, _, none⟩) ?_ (by first | exact Nat.le_refl _ | (simp; done) | (simp; omega) | omega) _)) hb)
    have Cmx2 : Hid (Cs x2 (w2.heap.size) [.int .i64 a0, .int .i64 a1, .int .i64 (1 + v), .int .i64 a3, .int .u64 (a4 : Int), .int .i64 a5, .int .i64 0]) := Lib.hid ((show Cs _ (w2.heap.size) [.int .i64 a0, .int .i64 a1, .int .i64 (1 + v), .int .i64 a3, .int .u64 (a4 : Int), .int .i64 a5, .int .i64 0] from (by (repeat (first | with_reducible exact Cmx1.out | (with_reducible refine Cs.new ?_; focus (first | rfl | (simp; done) | omega)) | with_reducible refine Cs.alloc ?_ _ | with_reducible refine Cs.drew ?_ | with_reducible refine Cs.drewN ?_ _ | (with_reducible refine Cs.other ?_ ?_ _; focus (first | omega | (simp; done) | (simp; omega))) | with_reducible apply Cs.put)) <;> first | rfl | (simp; done))).after hb)
    clear hb
    have lmx2 := Cmx2.out.1
    have mx2g0 := (Cmx2.out.at 0 rfl).1
    have mx2g1 := (Cmx2.out.at 1 rfl).1
    have mx2g2 := (Cmx2.out.at 2 rfl).1
    have mx2g3 := (Cmx2.out.at 3 rfl).1
    have mx2g4 := (Cmx2.out.at 4 rfl).1
    have mx2g5 := (Cmx2.out.at 5 rfl).1
    have mx2g6 := (Cmx2.out.at 6 rfl).1
    have hweq : ∀ W, (Op.equalIn 10000 38 (.agg #[.int .i64 a3, .int .u64 (a4 : Int)]) (.agg #[.int .i64 a3, .int .u64 (a4 : Int)])).run Tryd.prog W = .ok true W := fun W => eql_win _ _ W
    have H72 := H7.out
    by_cases hc7 : cut = 7
    · rw [if_pos hc7] at w2c
      subst w2c
      have hq1 : ((cut : Int) == (MW.length : Int)) = true := beq_iff_eq.mpr (by omega)
      have hq2 : (cut == MW.length) = true := beq_iff_eq.mpr (by omega)
      clear H72 hc7
      go_wp2_with fail
      go_ret
      exact ⟨rfl, blw_alloc HBx2.out _⟩
    · rw [if_neg hc7] at w2c
      subst w2c
      have hq1 : ((cut : Int) == (MW.length : Int)) = false := beq_eq_false_iff_ne.mpr (by omega)
      have hq2 : (cut == MW.length) = false := beq_eq_false_iff_ne.mpr (by omega)
      clear H72 hc7
      go_wp2_with fail
      go_ret
      exact ⟨rfl, blw_alloc HBx2.out _⟩
end Go.Proofs.YtccjcdecpgigpaaDoor.PocketBurns
