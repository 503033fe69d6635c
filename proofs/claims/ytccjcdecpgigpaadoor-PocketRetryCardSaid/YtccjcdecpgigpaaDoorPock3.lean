/- Pocket: contracts of Ticked, Make. -/
import Derived.Test.YtccjcdecpgigpaaDoorPock2
namespace Go.Proofs.YtccjcdecpgigpaaDoor.Pock
open Go Go.RowKit Go.Proofs.YtccjcdecpgigpaaDoor.Base Go.Proofs.YtccjcdecpgigpaaDoor.Met Go.Proofs.YtccjcdecpgigpaaDoor.Win Go.Proofs.YtccjcdecpgigpaaDoor.Cell Go.Proofs.YtccjcdecpgigpaaDoor.Orc Go.Proofs.YtccjcdecpgigpaaDoor.Tok
set_option linter.unusedVariables false
set_option linter.unusedSimpArgs false
set_option maxRecDepth 20000
theorem tick_keep (x : Mt) (ld : Int) (ok : x.ok) (hm : mmay x = true) (h0 : 0 ≤ ld) : (tickM x ld).ok ∧ mmay (tickM x ld) = true := by
  obtain ⟨⟨h1, h2, h3, h4⟩, ⟨h5, ⟨h6, h7⟩, h8⟩, h9⟩ := Met.mmay_lim hm
  have hB : x.wb < 18446744073709551616 := ok.2.1.2
  have k1 : (tickM x ld).c1 := ⟨h1, h2, by show 0 ≤ x.cr - min ld x.cr; omega, by show x.cr - min ld x.cr ≤ 99999999; omega⟩
  have k2 : (tickM x ld).c2 := ⟨h5, ⟨by show 0 ≤ max (x.lock - 1) 0; omega, by show max (x.lock - 1) 0 ≤ 30; omega⟩, fun h => h8 ⟨h.1, by have h10 : 0 < max (x.lock - 1) 0 := h.2; omega⟩⟩
  exact ⟨ok_of k1 k2 h9 hB, mmay_of k1 k2 h9⟩
set_option maxHeartbeats 4000000 in
theorem Ticked_any (c : List UInt32) (m : Mt) (ld : Int) (s : Nat) (A : Option Addr) (q : Nat) (w : World) (hc : RdE 1 encW w A c) (hk : Pk c m) (hs : newerN (markN c 5 0) (markN c 5 1) = some s) (hq : c.length ≤ q) (h0 : 0 ≤ ld) (h1 : ld ≤ 1000) :
    Calls Tryd.prog 35 #[.slice A c.length q, .int .i64 ld] w fun e w' => ∃ B p, e = .returned (.tuple #[.slice B (movedW c s m (tickM m ld)).length p, .int .i64 (min ld m.cr), .int .i64 0]) ∧ OwWr w.heap.size w' B p (movedW c s m (tickM m ld)) ∧ Below w.heap.size w w' := by
  have HB := Lib.hid (fun W hW => Boot_any c m A q W hW hk hq)
  have HT := Lib.hid (fun W => tick_any m ld W hk.ok hk.may h0 h1)
  obtain ⟨k1, k2⟩ := tick_keep m ld hk.ok hk.may h0
  have HM := Lib.hid (fun W hW => moved_any c m (tickM m ld) s A q W hW hk hs k1 k2)
  have HC := Lib.hid hc
  generalize movedW c s m (tickM m ld) = MW at *
  generalize tickM m ld = K at *
  obtain ⟨b0, b1, b2, b3, b4, b5, b6⟩ := K
  obtain ⟨a0, a1, a2, a3, a4, a5, a6⟩ := m
  unfold Mt.vals at *
  simp only at *
  generalize min ld a2 = mi at *
  clear hc hk hs hq k1 k2
  go_enter Tryd.func35, Tryd.ntmps35
  go_wp2_with (fail)
  go_at_call 26
  refine (HB.out _ HC.out).mono ?_
  rintro e w1 ⟨rfl, hb⟩
  have hwz1 := hb.size
  try simp at hwz1
  have HBw1 : Hid (Below w.heap.size w w1) := Lib.hid (below_then' (by repeat (first | with_reducible exact Below.refl _ _ | with_reducible refine blw_alloc ?_ _ | with_reducible refine Below.drew ?_ | with_reducible refine blw_step ?_ _ | with_reducible refine Below.setCell (p := ⟨_, _, none⟩) ?_ (by first | exact Nat.le_refl _ | (simp; done) | (simp; omega) | omega) _)) hb)
  clear hb
  have hs1 := HBw1.out.size
  go_wp2_with (fail)
  go_at_call 78
  refine (HT.out _).mono ?_
  rintro e w2 ⟨rfl, hb⟩
  have hwz2 := hb.size
  try simp at hwz2
  have HBw2 : Hid (Below w.heap.size w w2) := Lib.hid (below_then' (by repeat (first | with_reducible exact HBw1.out | with_reducible refine blw_alloc ?_ _ | with_reducible refine Below.drew ?_ | with_reducible refine blw_step ?_ _ | with_reducible refine Below.setCell (p := ⟨_, _, none⟩) ?_ (by first | exact Nat.le_refl _ | (simp; done) | (simp; omega) | omega) _)) hb)
  have Cmw2 : Hid (Cs w2 (w1.heap.size) [.int .i64 a0, .int .i64 a1, .int .i64 a2, .int .i64 a3, .int .u64 (a4 : Int), .int .i64 a5, .int .i64 a6]) := Lib.hid ((show Cs _ (w1.heap.size) [.int .i64 a0, .int .i64 a1, .int .i64 a2, .int .i64 a3, .int .u64 (a4 : Int), .int .i64 a5, .int .i64 a6] from (by (repeat (first | (with_reducible refine Cs.new ?_; focus (first | rfl | (simp; done) | omega)) | with_reducible refine Cs.alloc ?_ _ | with_reducible refine Cs.drew ?_ | with_reducible refine Cs.drewN ?_ _ | (with_reducible refine Cs.other ?_ ?_ _; focus (first | omega | (simp; omega))) | with_reducible apply Cs.put)) <;> first | rfl | (simp; done))).after hb)
  clear hb
  have lmw2 := Cmw2.out.1
  have mw2g0 := (Cmw2.out.at 0 rfl).1
  have mw2g1 := (Cmw2.out.at 1 rfl).1
  have mw2g2 := (Cmw2.out.at 2 rfl).1
  have mw2g3 := (Cmw2.out.at 3 rfl).1
  have mw2g4 := (Cmw2.out.at 4 rfl).1
  have mw2g5 := (Cmw2.out.at 5 rfl).1
  have mw2g6 := (Cmw2.out.at 6 rfl).1
  have hs2 := HBw2.out.size
  go_wp2_with (fail)
  go_at_call 51
  refine (HM.out _ (HC.out.below (by repeat (first | with_reducible exact HBw2.out | with_reducible refine blw_alloc ?_ _ | with_reducible refine Below.drew ?_ | with_reducible refine blw_step ?_ _ | with_reducible refine Below.setCell (p := ⟨_, _, none⟩) ?_ (by first | exact Nat.le_refl _ | (simp; done) | (simp; omega) | omega) _)))).mono ?_
  rintro e w3 ⟨B, p, rfl, ho, hb⟩
  have hwz3 := hb.size
  try simp at hwz3
  have HBw3 : Hid (Below w.heap.size w w3) := Lib.hid (below_then' (by repeat (first | with_reducible exact HBw2.out | with_reducible refine blw_alloc ?_ _ | with_reducible refine Below.drew ?_ | with_reducible refine blw_step ?_ _ | with_reducible refine Below.setCell (p := ⟨_, _, none⟩) ?_ (by first | exact Nat.le_refl _ | (simp; done) | (simp; omega) | omega) _)) hb)
  have HO := Lib.hid (Win.own_mono ho (show w.heap.size ≤ _ by (first | (simp; omega) | omega)))
  clear ho
  clear mw2g0 mw2g1 mw2g2 mw2g3 mw2g4 mw2g5 mw2g6 hb
  go_wp2_with fail
  go_ret3
  exact ⟨B, p, rfl, HO.out, HBw3.out⟩
/-- The words of a new meter. -/
def makeL (me : Int) : List UInt32 := 1 :: wordsL (beginM me) ++ List.replicate 6 0
theorem splice_take (cur F cs : List Value) (h12 : 12 ≤ cur.length) (hF : cur.take 12 = F) (hc : cs.length = 5) : (splice cur 1 cs).take 12 = F.take 1 ++ cs ++ F.drop 6 := by
  subst hF
  unfold splice
  rw [hc, List.take_append, List.take_append, hc, List.take_take, List.take_take, List.drop_take, ← List.append_assoc]
  rw [List.length_take, show min 1 cur.length = 1 by omega]
  rw [List.take_of_length_le (l := cs) (by omega)]
  simp
theorem own_open {B : Nat} {w : World} {A : Option Addr} {c : Nat} (h : OwW B w A c (freshL 5)) : ∃ g cur, A = some ⟨g, 0, none⟩ ∧ 12 ≤ c ∧ c ≤ maxLen ∧ B ≤ g ∧ w.heap[g]? = some (.cells (cur : List Value).toArray 93 (0, 0)) ∧ cur.length = c ∧ cur.take 12 = (freshL 5).flatMap encW := by
  obtain ⟨hl, h0 | ⟨g, cap, cur, hv, hb, hh, hn, hm, hz, ht⟩⟩ := h
  · exfalso
    have := h0.1
    simp at this
    have h2 := this.2.1
    revert h2
    decide
  · simp only [Value.slice.injEq] at hv
    obtain ⟨rfl, _, rfl⟩ := hv
    exact ⟨g, cur.toList, rfl, hn, hm, hb, hh, by simpa using hz, ht⟩
theorem own_close {B g c : Nat} {w : World} {cur : List Value} {L : List UInt32} (h12 : 12 ≤ c) (hm : c ≤ maxLen) (hb : B ≤ g) (hh : w.heap[g]? = some (.cells cur.toArray 93 (0, 0))) (hz : cur.length = c) (hl : L.length = 12) (ht : cur.take 12 = L.flatMap encW) : OwW B w (some ⟨g, 0, none⟩) c L :=
  ⟨by rw [hl, len_flat, hl], .inr ⟨g, c, cur.toArray, rfl, hb, hh, by rw [hl]; exact h12, hm, by simpa using hz, by rw [hl]; exact ht⟩⟩
theorem fresh12 (w : World) : Calls Tryd.prog 50 #[.int .i64 5] w fun e w' => ∃ B d, e = .returned (.tuple #[.slice B 12 d, .int .i64 0]) ∧ OwW w.heap.size w' B d (freshL 5) ∧ Below w.heap.size w w' := fresh_any 5 w (by decide) (by decide)
theorem make_flat (me : Int) : ((freshL 5).flatMap encW).take 1 ++ (wordsL (beginM me)).flatMap encW ++ ((freshL 5).flatMap encW).drop 6 = (makeL me).flatMap encW := rfl
set_option maxHeartbeats 4000000 in
theorem Make_any (me : Int) (w : World) (h0 : 0 ≤ me) (h1 : me < 50) :
    Calls Tryd.prog 23 #[.int .i64 me] w fun e w' => ∃ B p, e = .returned (.tuple #[.slice B (makeL me).length p, .int .i64 0]) ∧ OwW w.heap.size w' B p (makeL me) ∧ Below w.heap.size w w' := by
  obtain ⟨g1, g2, g3⟩ := begin_good me h0 h1
  have ok := ok_of g1 g2 g3 (by show 0 < 18446744073709551616; omega)
  have hm := mmay_of g1 g2 g3
  have HBE := Lib.hid (fun W => begin_any me W h0 h1)
  have HW := Lib.hid (fun W => words_yes (beginM me) W ok hm)
  have HMF := Lib.hid (make_flat me)
  have hl5 : (wordsL (beginM me)).length = 5 := rfl
  have hmk : (makeL me).length = 12 := rfl
  have HLW := Lib.hid (len_flat (wordsL (beginM me)))
  have HOW := Lib.hid (one_flat (wordsL (beginM me)))
  generalize makeL me = ML at *
  generalize wordsL (beginM me) = WL at *
  rw [hl5] at HW HLW
  rw [hmk]
  have HF := Lib.hid (fun W => fresh12 W)
  clear g1 g2 g3 ok hm
  unfold beginM Mt.vals at HBE HW
  simp only at HBE HW
  go_enter Tryd.func23, Tryd.ntmps23
  go_wp2_with (fail)
  go_at_call 49
  refine (HBE.out _).mono ?_
  rintro e w1 ⟨rfl, hb⟩
  have hwz1 := hb.size
  try simp at hwz1
  have HBw1 : Hid (Below w.heap.size w w1) := Lib.hid (below_then' (by repeat (first | with_reducible exact Below.refl _ _ | with_reducible refine blw_alloc ?_ _ | with_reducible refine Below.drew ?_ | with_reducible refine blw_step ?_ _ | with_reducible refine Below.setCell (p := ⟨_, _, none⟩) ?_ (by first | exact Nat.le_refl _ | (simp; done) | (simp; omega) | omega) _)) hb)
  clear hb
  have hs1 := HBw1.out.size
  go_wp2_with (fail)
  go_at_call 45
  refine (HW.out _).mono ?_
  rintro e w2 ⟨D, d, rfl, ho, hb⟩
  have hwz2 := hb.size
  try simp at hwz2
  have HBw2 : Hid (Below w.heap.size w w2) := Lib.hid (below_then' (by repeat (first | with_reducible exact HBw1.out | with_reducible refine blw_alloc ?_ _ | with_reducible refine Below.drew ?_ | with_reducible refine blw_step ?_ _ | with_reducible refine Below.setCell (p := ⟨_, _, none⟩) ?_ (by first | exact Nat.le_refl _ | (simp; done) | (simp; omega) | omega) _)) hb)
  have HD := Lib.hid ho
  clear ho
  clear hb
  have hs2 := HBw2.out.size
  go_wp2_with (fail)
  go_at_call 50
  refine (HF.out _).mono ?_
  rintro e w3 ⟨B, p, rfl, ho, hb⟩
  have hwz3 := hb.size
  try simp at hwz3
  have HBw3 : Hid (Below w.heap.size w w3) := Lib.hid (below_then' (by repeat (first | with_reducible exact HBw2.out | with_reducible refine blw_alloc ?_ _ | with_reducible refine Below.drew ?_ | with_reducible refine blw_step ?_ _ | with_reducible refine Below.setCell (p := ⟨_, _, none⟩) ?_ (by first | exact Nat.le_refl _ | (simp; done) | (simp; omega) | omega) _)) hb)
  have HO := Lib.hid ho
  have HD3 := Lib.hid (HD.out.read.below hb)
  clear ho HD
  clear hb
  obtain ⟨g, cur, rfl, h12, hmx, hbg, hgc, hcz, hct⟩ := own_open HO.out
  have hs3 := HBw2.out.size
  have HCT := Lib.hid hct
  have HGC := Lib.hid hgc
  have hp1 : p ≠ 1 := by omega
  have p1 : 1 ≤ p := by omega
  unfold maxLen at hmx
  clear hct hgc HO
  obtain ⟨dd, hD⟩ : ∃ dd, D = some dd := by obtain ⟨dd, e, _⟩ := HD3.out.2 (by intro h; rw [h] at hl5; simp at hl5); exact ⟨dd, e⟩
  subst hD
  go_wp2_with ((with_reducible refine wpList_copy_splice rfl (.tmp 28) (.tmp 29) 50 50 rfl 93 Tryd.underlying50 info_size (some ⟨g, 1, none⟩) (some dd) 11 (p - 1) 5 d rfl rfl g 1 cur 93 HGC.out (WL.flatMap encW) ?c1 ?c2 ?c3 HOW.out w.heap.size w HBw3.out ?c4 ?_); (case c1 => rw [HLW.out]; rfl); (case c2 => exact fun _ => ⟨rfl, dd, rfl, cells_flat HD3.out⟩); (case c3 => rw [HLW.out]; omega); (case c4 => omega); intro w4 hg4 hb4; have HG4 := Lib.hid hg4.out; have HB4 := Lib.hid hb4; clear hg4 hb4)
  go_ret2
  exact ⟨some ⟨g, 0, none⟩, p, rfl, own_close h12 (by unfold maxLen; omega) (by omega) HG4.out (by unfold splice; simp [HLW.out]; omega) hmk ((splice_take _ _ _ (by omega) HCT.out HLW.out).trans HMF.out), HB4.out⟩
end Go.Proofs.YtccjcdecpgigpaaDoor.Pock
