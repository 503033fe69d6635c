/- Contracts of the methods of meter.state. -/
import Derived.Test.YtccjcdecpgigpaaDoorOrcP
import Derived.Test.YtccjcdecpgigpaaDoorMay
import Derived.Test.YtccjcdecpgigpaaDoorTok
namespace Go.Proofs.YtccjcdecpgigpaaDoor.Met
open Go.RowKit Go.Proofs.YtccjcdecpgigpaaDoor.Base Go.Proofs.YtccjcdecpgigpaaDoor.Win Go.Proofs.YtccjcdecpgigpaaDoor.Orc
set_option linter.unusedVariables false
set_option linter.unusedSimpArgs false
set_option maxRecDepth 20000
/-- A state's cells. -/
structure St (w : World) (s : Nat) (x : Mt) (ad : Int) : Prop where
  c0 : w.cell? ⟨s, 0, none⟩ = some (.int .i64 x.me)
  c1 : w.cell? ⟨s, 1, none⟩ = some (.int .i64 x.rev)
  c2 : w.cell? ⟨s, 2, none⟩ = some (.int .i64 x.cr)
  c3 : w.cell? ⟨s, 3, none⟩ = some (.int .i64 x.wh)
  c4 : w.cell? ⟨s, 4, none⟩ = some (.int .u64 (x.wb : Int))
  c5 : w.cell? ⟨s, 5, none⟩ = some (.int .i64 x.bad)
  c6 : w.cell? ⟨s, 6, none⟩ = some (.int .i64 x.lock)
  c7 : w.cell? ⟨s, 7, none⟩ = some (.int .i64 ad)
  f0 : w.frozen? ⟨s, 0, none⟩ = false
  f1 : w.frozen? ⟨s, 1, none⟩ = false
  f2 : w.frozen? ⟨s, 2, none⟩ = false
  f3 : w.frozen? ⟨s, 3, none⟩ = false
  f4 : w.frozen? ⟨s, 4, none⟩ = false
  f5 : w.frozen? ⟨s, 5, none⟩ = false
  f6 : w.frozen? ⟨s, 6, none⟩ = false
  f7 : w.frozen? ⟨s, 7, none⟩ = false
theorem St.kept {w w' : World} {s : Nat} {x : Mt} {ad : Int} (h : St w s x ad) {B : Nat} (hb : Below B w w') (hs : s < B) : St w' s x ad where
  c0 := (hb.cell (p := ⟨s, 0, none⟩) hs).trans h.c0
  c1 := (hb.cell (p := ⟨s, 1, none⟩) hs).trans h.c1
  c2 := (hb.cell (p := ⟨s, 2, none⟩) hs).trans h.c2
  c3 := (hb.cell (p := ⟨s, 3, none⟩) hs).trans h.c3
  c4 := (hb.cell (p := ⟨s, 4, none⟩) hs).trans h.c4
  c5 := (hb.cell (p := ⟨s, 5, none⟩) hs).trans h.c5
  c6 := (hb.cell (p := ⟨s, 6, none⟩) hs).trans h.c6
  c7 := (hb.cell (p := ⟨s, 7, none⟩) hs).trans h.c7
  f0 := (hb.frozen (p := ⟨s, 0, none⟩) hs).trans h.f0
  f1 := (hb.frozen (p := ⟨s, 1, none⟩) hs).trans h.f1
  f2 := (hb.frozen (p := ⟨s, 2, none⟩) hs).trans h.f2
  f3 := (hb.frozen (p := ⟨s, 3, none⟩) hs).trans h.f3
  f4 := (hb.frozen (p := ⟨s, 4, none⟩) hs).trans h.f4
  f5 := (hb.frozen (p := ⟨s, 5, none⟩) hs).trans h.f5
  f6 := (hb.frozen (p := ⟨s, 6, none⟩) hs).trans h.f6
  f7 := (hb.frozen (p := ⟨s, 7, none⟩) hs).trans h.f7
/-- The latest revision below n under which it was sold; -1: none. -/
def seek (ps : List Pr) (me body tag : Int) : Nat → Int
  | 0 => -1
  | n + 1 => if verB ps me n body tag then n else seek ps me body tag n
def soldI (x : Mt) (ps : List Pr) (body tag : Int) : Int :=
  if seek ps x.me body tag (x.rev.toNat + 1) < 0 then 12 else if seek ps x.me body tag (x.rev.toNat + 1) < x.rev then 11 else 0
def badM (x : Mt) : Mt := if x.bad + 1 = 5 then { x with bad := 0, lock := 30 } else { x with bad := x.bad + 1 }
def soldM (x : Mt) (code : Int) : Mt := if code = 12 then badM x else x
set_option maxHeartbeats 2000000 in
theorem st_sold (s : Nat) (x : Mt) (ad : Int) (ps : List Pr) (A : Option Addr) (c : Nat) (body tag : Int) (w : World) (hs : St w s x ad) (hl : s < w.heap.size) (hr : RdE 4 Pr.enc w A ps) (hk : ∀ p ∈ ps, p.ok) (hg : Orc.Good ps)
    (m0 : 0 ≤ x.me ∧ x.me < 50) (r0 : 0 ≤ x.rev) (r1 : x.rev ≤ 15) (b0 : Orc.i64 body) (d0 : 0 ≤ x.bad) (d1 : x.bad < 5) :
    Calls Tryd.prog 76 #[.pointer (some ⟨s, 0, none⟩), .agg #[.slice A ps.length c], .int .i64 body, .int .i64 tag] w fun e w' => e = .returned (.int .i64 (soldI x ps body tag)) ∧ St w' s (soldM x (soldI x ps body tag)) ad ∧ Below s w w' := by
  have HR := Lib.hid hr
  have HV := Lib.hid (fun (r : Int) (h0 : 0 ≤ r) (h1 : r ≤ 15) w' hr => verify_yes ps x.me r body tag A c w' hr hk hg ⟨by omega, by omega⟩ ⟨by omega, by omega⟩ b0)
  have HS := Lib.hid hs
  obtain ⟨R, hR⟩ : ∃ R, R = soldI x ps body tag := ⟨_, rfl⟩
  obtain ⟨M, hM⟩ : ∃ M, M = soldM x R := ⟨_, rfl⟩
  rw [← hR, ← hM]
  unfold soldI at hR
  unfold soldM at hM
  obtain ⟨n, hn⟩ : ∃ n : Nat, x.rev = n := ⟨x.rev.toNat, by omega⟩
  rw [hn, Int.toNat_natCast] at hR
  have HRR := Lib.hid hR
  have HMM := Lib.hid hM
  clear hr hk hg b0 m0 hR hM
  obtain ⟨s0, s1, s2, s3, s4, s5, s6, s7, t0, t1, t2, t3, t4, t5, t6, t7⟩ := hs
  rw [hn] at s1
  go_enter Tryd.func76, Tryd.ntmps76
  go_wp2
  have hn15 : n ≤ 15 := by omega
  clear s0 s1 s2 s3 s4 s5 s6 s7 t0 t1 t2 t3 t4 t5 t6 t7 r0 r1
  go_loopw [9] (fun i wr => ∃ (k : Nat) (v : Int), k ≤ n + 1 ∧ i = .int .i64 v ∧ v = (k : Int) - 1 ∧ seek ps x.me body tag k = seek ps x.me body tag (n + 1) ∧ Below w.heap.size w wr ∧ w.heap.size < wr.heap.size ∧ wr.cell? ⟨w.heap.size, 0, none⟩ = some (.slice A ps.length c)) (fun i _ => (intOf i + 1).toNat)
  case atStart =>
    refine ⟨n + 1, n, by omega, rfl, by omega, rfl, blw_alloc (Below.refl _ _) _, by simp, ?_⟩
    go_simp
  case round =>
    obtain ⟨k, v, hkn, rfl, hv, hsk, hbl, hsz, cc0⟩ := hrel
    have HB := Lib.hid hbl
    have HSK := Lib.hid hsk
    obtain ⟨s0, s1, s2, s3, s4, s5, s6, s7, t0, t1, t2, t3, t4, t5, t6, t7⟩ := HS.out.kept hbl hl
    rw [hn] at s1
    clear hsk hbl
    cases k with
    | zero =>
      obtain rfl : v = -1 := by omega
      have hR : R = 12 := by rw [HRR.out, ← HSK.out]; rfl
      have hM := HMM.out
      rw [if_pos hR, badM] at hM
      by_cases h5 : x.bad + 1 = 5
      · rw [if_pos h5] at hM
        have h4 : x.bad = 4 := by omega
        rw [h4] at s5
        have HM := Lib.hid hM
        have HR1 := Lib.hid hR
        clear hM hR hv
        go_wp2
        go_ret
        refine ⟨by rw [HR1.out]; rfl, ?_, ?_⟩
        · rw [HM.out]
          constructor <;> go_simp
        · have hW := HB.out.mono (Nat.le_of_lt hl)
          exact ((hW.setCell (p := ⟨s, 5, none⟩) (Nat.le_refl _) _).setCell (p := ⟨s, 5, none⟩) (Nat.le_refl _) _).setCell (p := ⟨s, 6, none⟩) (Nat.le_refl _) _
      · rw [if_neg h5] at hM
        have e5 : (x.bad + 1 == 5) = false := beq_eq_false_iff_ne.mpr h5
        have HM := Lib.hid hM
        have HR1 := Lib.hid hR
        clear hM hR hv
        go_wp2
        go_ret
        refine ⟨by rw [HR1.out]; rfl, ?_, ?_⟩
        · rw [HM.out]
          constructor <;> go_simp
        · have hW := HB.out.mono (Nat.le_of_lt hl)
          exact hW.setCell (p := ⟨s, 5, none⟩) (Nat.le_refl _) _
    | succ k =>
      obtain rfl : v = (k : Int) := by omega
      have hsv : seek ps x.me body tag (k + 1) = if verB ps x.me k body tag then (k : Int) else seek ps x.me body tag k := rfl
      have HVV := Lib.hid (HV.out (k : Int) (by omega) (by omega))
      have e0 : (0 : Int) ≤ (k : Int) := by omega
      cases hvb : verB ps x.me k body tag
      · rw [hvb] at HVV hsv
        have HNV := Lib.hid hsv
        clear hsv hvb hv
        go_wp2
        go_region_held3 (fun w' => w'.cell? ⟨w.heap.size, 0, none⟩ = some (.slice A ps.length c) ∧ w'.cell? ⟨s, 0, none⟩ = some (.int .i64 x.me)) (go_keep) ((go_at_call 114; refine (HVV.out _ (HR.out.below (HB.out.drew))).mono ?_; rintro e w1 ⟨rfl, hb1⟩; have q0 : w1.cell? ⟨w.heap.size, 0, none⟩ = some (.slice A ps.length c) := (hb1.cell (p := ⟨w.heap.size, 0, none⟩) hsz).trans cc0; have q1 : w1.cell? ⟨s, 0, none⟩ = some (.int .i64 x.me) := (hb1.cell (p := ⟨s, 0, none⟩) (Nat.lt_trans hl hsz)).trans s0; have HB1 := Lib.hid (below_then HB.out.drew HB.out.size hb1); have hz1 := hb1.size; clear hb1))
        go_wp2
        go_roundw
        case rel =>
          refine ⟨k, (k : Int) - 1, by omega, by go_num, rfl, ?_, HB1.out, by have : wr.drew.heap.size = wr.heap.size := rfl; omega, q0⟩
          have := HNV.out
          rw [if_neg (by decide)] at this
          rw [← this]
          exact HSK.out
        case measure => simp [intOf]
      · rw [hvb] at HVV hsv
        rw [if_pos rfl] at hsv
        have hR : R = if (k : Int) < n then 11 else 0 := by
          rw [HRR.out, ← HSK.out, hsv, if_neg (by omega)]
        have hM := HMM.out
        rw [if_neg (by rw [hR]; split <;> omega)] at hM
        have HM := Lib.hid hM
        by_cases hkn2 : (k : Int) < n
        · rw [if_pos hkn2] at hR
          have HR1 := Lib.hid hR
          clear hsv hvb hv hM hR
          go_wp2
          go_region_held3 (fun w' => w'.cell? ⟨w.heap.size, 0, none⟩ = some (.slice A ps.length c) ∧ w'.cell? ⟨s, 0, none⟩ = some (.int .i64 x.me)) (go_keep) ((go_at_call 114; refine (HVV.out _ (HR.out.below (HB.out.drew))).mono ?_; rintro e w1 ⟨rfl, hb1⟩; have q0 : w1.cell? ⟨w.heap.size, 0, none⟩ = some (.slice A ps.length c) := (hb1.cell (p := ⟨w.heap.size, 0, none⟩) hsz).trans cc0; have q1 : w1.cell? ⟨s, 0, none⟩ = some (.int .i64 x.me) := (hb1.cell (p := ⟨s, 0, none⟩) (Nat.lt_trans hl hsz)).trans s0; have q2 : w1.cell? ⟨s, 1, none⟩ = some (.int .i64 (n : Int)) := (hb1.cell (p := ⟨s, 1, none⟩) (Nat.lt_trans hl hsz)).trans s1; have HB1 := Lib.hid (below_then HB.out.drew HB.out.size hb1); have hz1 := hb1.size; clear hb1))
          go_wp2
          go_ret
          exact ⟨by rw [HR1.out]; rfl, by rw [HM.out]; exact HS.out.kept HB1.out hl, HB1.out.mono (Nat.le_of_lt hl)⟩
        · rw [if_neg hkn2] at hR
          have HR1 := Lib.hid hR
          clear hsv hvb hv hM hR
          go_wp2
          go_region_held3 (fun w' => w'.cell? ⟨w.heap.size, 0, none⟩ = some (.slice A ps.length c) ∧ w'.cell? ⟨s, 0, none⟩ = some (.int .i64 x.me)) (go_keep) ((go_at_call 114; refine (HVV.out _ (HR.out.below (HB.out.drew))).mono ?_; rintro e w1 ⟨rfl, hb1⟩; have q0 : w1.cell? ⟨w.heap.size, 0, none⟩ = some (.slice A ps.length c) := (hb1.cell (p := ⟨w.heap.size, 0, none⟩) hsz).trans cc0; have q1 : w1.cell? ⟨s, 0, none⟩ = some (.int .i64 x.me) := (hb1.cell (p := ⟨s, 0, none⟩) (Nat.lt_trans hl hsz)).trans s0; have q2 : w1.cell? ⟨s, 1, none⟩ = some (.int .i64 (n : Int)) := (hb1.cell (p := ⟨s, 1, none⟩) (Nat.lt_trans hl hsz)).trans s1; have HB1 := Lib.hid (below_then HB.out.drew HB.out.size hb1); have hz1 := hb1.size; clear hb1))
          go_wp2
          go_ret
          exact ⟨by rw [HR1.out]; rfl, by rw [HM.out]; exact HS.out.kept HB1.out hl, HB1.out.mono (Nat.le_of_lt hl)⟩
end Go.Proofs.YtccjcdecpgigpaaDoor.Met
