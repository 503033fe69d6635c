/- The walk of ReceiptForged. -/
import Derived.Test.YtccjcdecpgigpaaDoorRcpF
import Derived.Test.YtccjcdecpgigpaaDoorNum
namespace Go.Proofs.YtccjcdecpgigpaaDoor.ReceiptForged
open Go Go.RowKit Go.Proofs.YtccjcdecpgigpaaDoor.Base Go.Proofs.YtccjcdecpgigpaaDoor.Tok Go.Proofs.YtccjcdecpgigpaaDoor.Rcf
set_option linter.unusedVariables false
set_option linter.unusedSimpArgs false
set_option maxRecDepth 20000
theorem slip_lim (x : Sl) : (0 ≤ (slipR x).me ∧ (slipR x).me < 50) ∧ (1 ≤ (slipR x).id ∧ (slipR x).id ≤ 1048575) ∧ (slipR x).te = (slipR x).de + (slipR x).fe + (slipR x).pr + (slipR x).ch ∧ (0 ≤ (slipR x).de ∧ (slipR x).de < 20000000) ∧ (0 ≤ (slipR x).fe ∧ (slipR x).fe < 20000000) ∧ (0 ≤ (slipR x).pr ∧ (slipR x).pr < 20000000) ∧ (0 ≤ (slipR x).ch ∧ (slipR x).ch < 20000000) ∧ 0 ≤ (slipR x).un ∧ (slipR x).un ≤ 2097151 := by
  obtain ⟨a0, a1⟩ := pk_bound x.me 50 (by decide)
  obtain ⟨b0, b1⟩ := pk_bound x.t.id 1048575 (by decide)
  obtain ⟨c0, c1⟩ := pk_bound x.t.am 2097151 (by decide)
  obtain ⟨y0, y1⟩ := pk_bound x.de 20000000 (by decide)
  obtain ⟨y2, y3⟩ := pk_bound x.fe 20000000 (by decide)
  obtain ⟨y4, y5⟩ := pk_bound x.pr 20000000 (by decide)
  obtain ⟨y6, y7⟩ := pk_bound x.ch 20000000 (by decide)
  refine ⟨⟨a0, a1⟩, ⟨by show 1 ≤ 1 + pk x.t.id 1048575; omega, by show 1 + pk x.t.id 1048575 ≤ 1048575; omega⟩, rfl, ⟨y0, y1⟩, ⟨y2, y3⟩, ⟨y4, y5⟩, ⟨y6, y7⟩, ?_⟩
  have hu : (slipR x).un = if pk x.t.cl 4 = 0 then (if pk x.t.cl 4 = 0 then 1 + pk x.t.am 2097151 else if pk x.t.cl 4 = 2 then 1 + pk x.t.am 15 else 0) else 0 := rfl
  rw [hu]
  split <;> omega
set_option maxHeartbeats 8000000 in
theorem walk (x : Sl) (cs : List Value) (which by_ : Int) (w : World) (hx : cs = x.cs ∧ x.ok) (w1 : (Lit.int .i64 which).wf = true) (w2 : (Lit.int .i64 by_).wf = true) :
    Calls Tryd.prog 10 #[.agg cs.toArray, .int .i64 which, .int .i64 by_] w fun e w' => e = .returned (.bool true) ∧ Below w.heap.size w w' := by
  obtain ⟨rfl, xok⟩ := hx
  obtain ⟨p0, p1⟩ := i64_bound w1
  obtain ⟨q0, q1⟩ := i64_bound w2
  clear w1 w2
  have HS := Lib.hid (fun W => slip_any x W xok)
  obtain ⟨⟨l0, l1⟩, ⟨l2, l3⟩, l4, ⟨l5, l6⟩, ⟨l7, l8⟩, ⟨l9, l10⟩, ⟨l11, l12⟩, l13, l14⟩ := slip_lim x
  generalize slipR x = r at *
  obtain ⟨me, id, te, de, fe, pr, ch, un, tok⟩ := r
  simp only at *
  have HPB := Lib.hid (fun W => picked_any by_ 1000 W q0 q1 (by omega))
  obtain ⟨m0, m1⟩ := pk_bound by_ 1000 (by decide)
  obtain ⟨m, hm⟩ : ∃ m, m = pk by_ 1000 := ⟨_, rfl⟩
  rw [← hm] at HPB m0 m1
  have HPW := Lib.hid (fun W => picked_any which 5 W p0 p1 (by omega))
  obtain ⟨k0, k1⟩ := pk_bound which 5 (by decide)
  obtain ⟨k, hk⟩ : ∃ k, k = pk which 5 := ⟨_, rfl⟩
  rw [← hk] at HPW k0 k1
  clear hm hk
  have HK : ∀ (te' de' fe' pr' ch' : Int), (0 ≤ te' ∧ te' ≤ 100000000) → (0 ≤ de' ∧ de' ≤ 100000000) → (0 ≤ fe' ∧ fe' ≤ 100000000) → (0 ≤ pr' ∧ pr' ≤ 100000000) → (0 ≤ ch' ∧ ch' ≤ 100000000) → te' ≠ de' + fe' + pr' + ch' →
      (∀ W, Calls Tryd.prog 30 #[.agg #[.int .i64 me, .int .i64 id, .int .i64 te', .int .i64 de', .int .i64 fe', .int .i64 pr', .int .i64 ch', .int .i64 un, .string tok]] W fun e w' => e = .returned (.int .i64 19) ∧ Below W.heap.size W w') ∧
      (∀ W, Calls Tryd.prog 31 #[.agg #[.int .i64 me, .int .i64 id, .int .i64 te', .int .i64 de', .int .i64 fe', .int .i64 pr', .int .i64 ch', .int .i64 un, .string tok]] W fun e w' => e = .returned (.tuple #[.string ⟨#[]⟩, .int .i64 19]) ∧ Below W.heap.size W w') :=
    fun te' de' fe' pr' ch' h1 h2 h3 h4 h5 h6 => ⟨fun W => Check_tender ⟨me, id, te', de', fe', pr', ch', un, tok⟩ W ⟨⟨l0, l1⟩, ⟨l2, l3⟩, h1, h2, h3, h4, h5, l13, l14⟩ (bne_iff_ne.mpr h6), fun W => Show_tender ⟨me, id, te', de', fe', pr', ch', un, tok⟩ W ⟨⟨l0, l1⟩, ⟨l2, l3⟩, h1, h2, h3, h4, h5, l13, l14⟩ (bne_iff_ne.mpr h6)⟩
  obtain ⟨xme, ⟨xcl, xid, xam, xtag⟩, xde, xfe, xpr, xch⟩ := x
  unfold Sl.cs Rc.vals at *
  simp only at *
  clear xok
  obtain ⟨mm, hmm⟩ : ∃ mm, mm = 1 + m := ⟨_, rfl⟩
  have HMM : Hid (IntKind.i64.wrap (1 + m) = mm) := Lib.hid (by rw [IntKind.wrap_i64]; omega)
  have b0 : 1 ≤ mm := by omega
  have b1 : mm ≤ 1000 := by omega
  have l15 : te ≤ 80000000 := by omega
  rcases (by omega : k = 0 ∨ k = 1 ∨ k = 2 ∨ k = 3 ∨ k = 4) with rfl | rfl | rfl | rfl | rfl
  · obtain ⟨hck, hsh⟩ := HK te (de + mm) fe pr ch (by omega) (by omega) (by omega) (by omega) (by omega) (by omega)
    have HCK := Lib.hid hck
    have HSH := Lib.hid hsh
    have n0 : 0 ≤ de + mm := by omega
    have n1 : de + mm ≤ 100001000 := by omega
    have HL4 := Lib.hid l4
    clear hck hsh HK l4 hmm
    go_enter Tryd.func10, Tryd.ntmps10
    go_wp2_with (fail)
    go_at_call 29
    refine (HS.out _).mono ?_
    rintro e w1 ⟨rfl, hb⟩
    have hwz1 := hb.size
    try simp at hwz1
    have HBw1 : Hid (Below w.heap.size w w1) := Lib.hid (below_then' (by repeat (first | with_reducible exact Below.refl _ _ | with_reducible refine blw_alloc ?_ _ | with_reducible refine Below.drew ?_ | with_reducible refine blw_step ?_ _ | with_reducible refine Below.setCell (p := ⟨_, _, none⟩) ?_ (by first | exact Nat.le_refl _ | (simp; done) | (simp; omega) | omega) _)) hb)
    clear hb
    have hs1 := HBw1.out.size
    go_wp2_with fail
    go_at_call 17
    refine (HPB.out _).mono ?_
    rintro e w' ⟨rfl, rfl⟩
    obtain rfl : mm = 1 + m := by rw [← HMM.out, IntKind.wrap_i64]; omega
    clear HMM
    go_wp2_with fail
    go_at_call 17
    refine (HPW.out _).mono ?_
    rintro e w' ⟨rfl, rfl⟩
    go_wp2_with fail
    go_at_call 30
    refine (HCK.out _).mono ?_
    rintro e w2 ⟨rfl, hb⟩
    have HBw2 : Hid (Below w.heap.size w w2) := Lib.hid (below_then' (by repeat (first | with_reducible exact HBw1.out | with_reducible refine blw_alloc ?_ _ | with_reducible refine Below.drew ?_ | with_reducible refine blw_step ?_ _ | with_reducible refine Below.setCell (p := ⟨_, _, none⟩) ?_ (by first | exact Nat.le_refl _ | (simp; done) | (simp; omega) | omega) _)) hb)
    have Crw2 : Hid (Cs w2 (w1.heap.size) [.int .i64 me, .int .i64 id, .int .i64 te, .int .i64 (de + (1 + m)), .int .i64 fe, .int .i64 pr, .int .i64 ch, .int .i64 un, .string tok]) := Lib.hid ((show Cs _ (w1.heap.size) [.int .i64 me, .int .i64 id, .int .i64 te, .int .i64 (de + (1 + m)), .int .i64 fe, .int .i64 pr, .int .i64 ch, .int .i64 un, .string tok] from (by (repeat (first | (with_reducible refine Cs.new ?_; focus (first | rfl | (simp; done) | omega)) | with_reducible refine Cs.alloc ?_ _ | with_reducible refine Cs.drew ?_ | with_reducible refine Cs.drewN ?_ _ | (with_reducible refine Cs.other ?_ ?_ _; focus (first | omega | (simp; omega))) | with_reducible apply Cs.put)) <;> first | rfl | (simp; done))).after hb)
    clear hb
    have lr2 := Crw2.out.1
    have rg0 := (Crw2.out.at 0 rfl).1
    have rg1 := (Crw2.out.at 1 rfl).1
    have rg2 := (Crw2.out.at 2 rfl).1
    have rg3 := (Crw2.out.at 3 rfl).1
    have rg4 := (Crw2.out.at 4 rfl).1
    have rg5 := (Crw2.out.at 5 rfl).1
    have rg6 := (Crw2.out.at 6 rfl).1
    have rg7 := (Crw2.out.at 7 rfl).1
    have rg8 := (Crw2.out.at 8 rfl).1
    go_wp2_with fail
    go_at_call 31
    refine (HSH.out _).mono ?_
    rintro e w3 ⟨rfl, hb⟩
    have HBw3 : Hid (Below w.heap.size w w3) := Lib.hid (below_then' HBw2.out hb)
    clear hb
    go_wp2_with fail
    go_ret
    exact ⟨rfl, HBw3.out⟩
  · obtain ⟨hck, hsh⟩ := HK te de (fe + mm) pr ch (by omega) (by omega) (by omega) (by omega) (by omega) (by omega)
    have HCK := Lib.hid hck
    have HSH := Lib.hid hsh
    have n0 : 0 ≤ fe + mm := by omega
    have n1 : fe + mm ≤ 100001000 := by omega
    have HL4 := Lib.hid l4
    clear hck hsh HK l4 hmm
    go_enter Tryd.func10, Tryd.ntmps10
    go_wp2_with (fail)
    go_at_call 29
    refine (HS.out _).mono ?_
    rintro e w1 ⟨rfl, hb⟩
    have hwz1 := hb.size
    try simp at hwz1
    have HBw1 : Hid (Below w.heap.size w w1) := Lib.hid (below_then' (by repeat (first | with_reducible exact Below.refl _ _ | with_reducible refine blw_alloc ?_ _ | with_reducible refine Below.drew ?_ | with_reducible refine blw_step ?_ _ | with_reducible refine Below.setCell (p := ⟨_, _, none⟩) ?_ (by first | exact Nat.le_refl _ | (simp; done) | (simp; omega) | omega) _)) hb)
    clear hb
    have hs1 := HBw1.out.size
    go_wp2_with fail
    go_at_call 17
    refine (HPB.out _).mono ?_
    rintro e w' ⟨rfl, rfl⟩
    obtain rfl : mm = 1 + m := by rw [← HMM.out, IntKind.wrap_i64]; omega
    clear HMM
    go_wp2_with fail
    go_at_call 17
    refine (HPW.out _).mono ?_
    rintro e w' ⟨rfl, rfl⟩
    go_wp2_with fail
    go_at_call 30
    refine (HCK.out _).mono ?_
    rintro e w2 ⟨rfl, hb⟩
    have HBw2 : Hid (Below w.heap.size w w2) := Lib.hid (below_then' (by repeat (first | with_reducible exact HBw1.out | with_reducible refine blw_alloc ?_ _ | with_reducible refine Below.drew ?_ | with_reducible refine blw_step ?_ _ | with_reducible refine Below.setCell (p := ⟨_, _, none⟩) ?_ (by first | exact Nat.le_refl _ | (simp; done) | (simp; omega) | omega) _)) hb)
    have Crw2 : Hid (Cs w2 (w1.heap.size) [.int .i64 me, .int .i64 id, .int .i64 te, .int .i64 de, .int .i64 (fe + (1 + m)), .int .i64 pr, .int .i64 ch, .int .i64 un, .string tok]) := Lib.hid ((show Cs _ (w1.heap.size) [.int .i64 me, .int .i64 id, .int .i64 te, .int .i64 de, .int .i64 (fe + (1 + m)), .int .i64 pr, .int .i64 ch, .int .i64 un, .string tok] from (by (repeat (first | (with_reducible refine Cs.new ?_; focus (first | rfl | (simp; done) | omega)) | with_reducible refine Cs.alloc ?_ _ | with_reducible refine Cs.drew ?_ | with_reducible refine Cs.drewN ?_ _ | (with_reducible refine Cs.other ?_ ?_ _; focus (first | omega | (simp; omega))) | with_reducible apply Cs.put)) <;> first | rfl | (simp; done))).after hb)
    clear hb
    have lr2 := Crw2.out.1
    have rg0 := (Crw2.out.at 0 rfl).1
    have rg1 := (Crw2.out.at 1 rfl).1
    have rg2 := (Crw2.out.at 2 rfl).1
    have rg3 := (Crw2.out.at 3 rfl).1
    have rg4 := (Crw2.out.at 4 rfl).1
    have rg5 := (Crw2.out.at 5 rfl).1
    have rg6 := (Crw2.out.at 6 rfl).1
    have rg7 := (Crw2.out.at 7 rfl).1
    have rg8 := (Crw2.out.at 8 rfl).1
    go_wp2_with fail
    go_at_call 31
    refine (HSH.out _).mono ?_
    rintro e w3 ⟨rfl, hb⟩
    have HBw3 : Hid (Below w.heap.size w w3) := Lib.hid (below_then' HBw2.out hb)
    clear hb
    go_wp2_with fail
    go_ret
    exact ⟨rfl, HBw3.out⟩
  · obtain ⟨hck, hsh⟩ := HK te de fe (pr + mm) ch (by omega) (by omega) (by omega) (by omega) (by omega) (by omega)
    have HCK := Lib.hid hck
    have HSH := Lib.hid hsh
    have n0 : 0 ≤ pr + mm := by omega
    have n1 : pr + mm ≤ 100001000 := by omega
    have HL4 := Lib.hid l4
    clear hck hsh HK l4 hmm
    go_enter Tryd.func10, Tryd.ntmps10
    go_wp2_with (fail)
    go_at_call 29
    refine (HS.out _).mono ?_
    rintro e w1 ⟨rfl, hb⟩
    have hwz1 := hb.size
    try simp at hwz1
    have HBw1 : Hid (Below w.heap.size w w1) := Lib.hid (below_then' (by repeat (first | with_reducible exact Below.refl _ _ | with_reducible refine blw_alloc ?_ _ | with_reducible refine Below.drew ?_ | with_reducible refine blw_step ?_ _ | with_reducible refine Below.setCell (p := ⟨_, _, none⟩) ?_ (by first | exact Nat.le_refl _ | (simp; done) | (simp; omega) | omega) _)) hb)
    clear hb
    have hs1 := HBw1.out.size
    go_wp2_with fail
    go_at_call 17
    refine (HPB.out _).mono ?_
    rintro e w' ⟨rfl, rfl⟩
    obtain rfl : mm = 1 + m := by rw [← HMM.out, IntKind.wrap_i64]; omega
    clear HMM
    go_wp2_with fail
    go_at_call 17
    refine (HPW.out _).mono ?_
    rintro e w' ⟨rfl, rfl⟩
    go_wp2_with fail
    go_at_call 30
    refine (HCK.out _).mono ?_
    rintro e w2 ⟨rfl, hb⟩
    have HBw2 : Hid (Below w.heap.size w w2) := Lib.hid (below_then' (by repeat (first | with_reducible exact HBw1.out | with_reducible refine blw_alloc ?_ _ | with_reducible refine Below.drew ?_ | with_reducible refine blw_step ?_ _ | with_reducible refine Below.setCell (p := ⟨_, _, none⟩) ?_ (by first | exact Nat.le_refl _ | (simp; done) | (simp; omega) | omega) _)) hb)
    have Crw2 : Hid (Cs w2 (w1.heap.size) [.int .i64 me, .int .i64 id, .int .i64 te, .int .i64 de, .int .i64 fe, .int .i64 (pr + (1 + m)), .int .i64 ch, .int .i64 un, .string tok]) := Lib.hid ((show Cs _ (w1.heap.size) [.int .i64 me, .int .i64 id, .int .i64 te, .int .i64 de, .int .i64 fe, .int .i64 (pr + (1 + m)), .int .i64 ch, .int .i64 un, .string tok] from (by (repeat (first | (with_reducible refine Cs.new ?_; focus (first | rfl | (simp; done) | omega)) | with_reducible refine Cs.alloc ?_ _ | with_reducible refine Cs.drew ?_ | with_reducible refine Cs.drewN ?_ _ | (with_reducible refine Cs.other ?_ ?_ _; focus (first | omega | (simp; omega))) | with_reducible apply Cs.put)) <;> first | rfl | (simp; done))).after hb)
    clear hb
    have lr2 := Crw2.out.1
    have rg0 := (Crw2.out.at 0 rfl).1
    have rg1 := (Crw2.out.at 1 rfl).1
    have rg2 := (Crw2.out.at 2 rfl).1
    have rg3 := (Crw2.out.at 3 rfl).1
    have rg4 := (Crw2.out.at 4 rfl).1
    have rg5 := (Crw2.out.at 5 rfl).1
    have rg6 := (Crw2.out.at 6 rfl).1
    have rg7 := (Crw2.out.at 7 rfl).1
    have rg8 := (Crw2.out.at 8 rfl).1
    go_wp2_with fail
    go_at_call 31
    refine (HSH.out _).mono ?_
    rintro e w3 ⟨rfl, hb⟩
    have HBw3 : Hid (Below w.heap.size w w3) := Lib.hid (below_then' HBw2.out hb)
    clear hb
    go_wp2_with fail
    go_ret
    exact ⟨rfl, HBw3.out⟩
  · obtain ⟨hck, hsh⟩ := HK te de fe pr (ch + mm) (by omega) (by omega) (by omega) (by omega) (by omega) (by omega)
    have HCK := Lib.hid hck
    have HSH := Lib.hid hsh
    have n0 : 0 ≤ ch + mm := by omega
    have n1 : ch + mm ≤ 100001000 := by omega
    have HL4 := Lib.hid l4
    clear hck hsh HK l4 hmm
    go_enter Tryd.func10, Tryd.ntmps10
    go_wp2_with (fail)
    go_at_call 29
    refine (HS.out _).mono ?_
    rintro e w1 ⟨rfl, hb⟩
    have hwz1 := hb.size
    try simp at hwz1
    have HBw1 : Hid (Below w.heap.size w w1) := Lib.hid (below_then' (by repeat (first | with_reducible exact Below.refl _ _ | with_reducible refine blw_alloc ?_ _ | with_reducible refine Below.drew ?_ | with_reducible refine blw_step ?_ _ | with_reducible refine Below.setCell (p := ⟨_, _, none⟩) ?_ (by first | exact Nat.le_refl _ | (simp; done) | (simp; omega) | omega) _)) hb)
    clear hb
    have hs1 := HBw1.out.size
    go_wp2_with fail
    go_at_call 17
    refine (HPB.out _).mono ?_
    rintro e w' ⟨rfl, rfl⟩
    obtain rfl : mm = 1 + m := by rw [← HMM.out, IntKind.wrap_i64]; omega
    clear HMM
    go_wp2_with fail
    go_at_call 17
    refine (HPW.out _).mono ?_
    rintro e w' ⟨rfl, rfl⟩
    go_wp2_with fail
    go_at_call 30
    refine (HCK.out _).mono ?_
    rintro e w2 ⟨rfl, hb⟩
    have HBw2 : Hid (Below w.heap.size w w2) := Lib.hid (below_then' (by repeat (first | with_reducible exact HBw1.out | with_reducible refine blw_alloc ?_ _ | with_reducible refine Below.drew ?_ | with_reducible refine blw_step ?_ _ | with_reducible refine Below.setCell (p := ⟨_, _, none⟩) ?_ (by first | exact Nat.le_refl _ | (simp; done) | (simp; omega) | omega) _)) hb)
    have Crw2 : Hid (Cs w2 (w1.heap.size) [.int .i64 me, .int .i64 id, .int .i64 te, .int .i64 de, .int .i64 fe, .int .i64 pr, .int .i64 (ch + (1 + m)), .int .i64 un, .string tok]) := Lib.hid ((show Cs _ (w1.heap.size) [.int .i64 me, .int .i64 id, .int .i64 te, .int .i64 de, .int .i64 fe, .int .i64 pr, .int .i64 (ch + (1 + m)), .int .i64 un, .string tok] from (by (repeat (first | (with_reducible refine Cs.new ?_; focus (first | rfl | (simp; done) | omega)) | with_reducible refine Cs.alloc ?_ _ | with_reducible refine Cs.drew ?_ | with_reducible refine Cs.drewN ?_ _ | (with_reducible refine Cs.other ?_ ?_ _; focus (first | omega | (simp; omega))) | with_reducible apply Cs.put)) <;> first | rfl | (simp; done))).after hb)
    clear hb
    have lr2 := Crw2.out.1
    have rg0 := (Crw2.out.at 0 rfl).1
    have rg1 := (Crw2.out.at 1 rfl).1
    have rg2 := (Crw2.out.at 2 rfl).1
    have rg3 := (Crw2.out.at 3 rfl).1
    have rg4 := (Crw2.out.at 4 rfl).1
    have rg5 := (Crw2.out.at 5 rfl).1
    have rg6 := (Crw2.out.at 6 rfl).1
    have rg7 := (Crw2.out.at 7 rfl).1
    have rg8 := (Crw2.out.at 8 rfl).1
    go_wp2_with fail
    go_at_call 31
    refine (HSH.out _).mono ?_
    rintro e w3 ⟨rfl, hb⟩
    have HBw3 : Hid (Below w.heap.size w w3) := Lib.hid (below_then' HBw2.out hb)
    clear hb
    go_wp2_with fail
    go_ret
    exact ⟨rfl, HBw3.out⟩
  · obtain ⟨hck, hsh⟩ := HK (te + mm) de fe pr ch (by omega) (by omega) (by omega) (by omega) (by omega) (by omega)
    have HCK := Lib.hid hck
    have HSH := Lib.hid hsh
    have n0 : 0 ≤ te + mm := by omega
    have n1 : te + mm ≤ 100001000 := by omega
    have HL4 := Lib.hid l4
    clear hck hsh HK l4 hmm
    go_enter Tryd.func10, Tryd.ntmps10
    go_wp2_with (fail)
    go_at_call 29
    refine (HS.out _).mono ?_
    rintro e w1 ⟨rfl, hb⟩
    have hwz1 := hb.size
    try simp at hwz1
    have HBw1 : Hid (Below w.heap.size w w1) := Lib.hid (below_then' (by repeat (first | with_reducible exact Below.refl _ _ | with_reducible refine blw_alloc ?_ _ | with_reducible refine Below.drew ?_ | with_reducible refine blw_step ?_ _ | with_reducible refine Below.setCell (p := ⟨_, _, none⟩) ?_ (by first | exact Nat.le_refl _ | (simp; done) | (simp; omega) | omega) _)) hb)
    clear hb
    have hs1 := HBw1.out.size
    go_wp2_with fail
    go_at_call 17
    refine (HPB.out _).mono ?_
    rintro e w' ⟨rfl, rfl⟩
    obtain rfl : mm = 1 + m := by rw [← HMM.out, IntKind.wrap_i64]; omega
    clear HMM
    go_wp2_with fail
    go_at_call 17
    refine (HPW.out _).mono ?_
    rintro e w' ⟨rfl, rfl⟩
    go_wp2_with fail
    go_at_call 30
    refine (HCK.out _).mono ?_
    rintro e w2 ⟨rfl, hb⟩
    have HBw2 : Hid (Below w.heap.size w w2) := Lib.hid (below_then' (by repeat (first | with_reducible exact HBw1.out | with_reducible refine blw_alloc ?_ _ | with_reducible refine Below.drew ?_ | with_reducible refine blw_step ?_ _ | with_reducible refine Below.setCell (p := ⟨_, _, none⟩) ?_ (by first | exact Nat.le_refl _ | (simp; done) | (simp; omega) | omega) _)) hb)
    have Crw2 : Hid (Cs w2 (w1.heap.size) [.int .i64 me, .int .i64 id, .int .i64 (te + (1 + m)), .int .i64 de, .int .i64 fe, .int .i64 pr, .int .i64 ch, .int .i64 un, .string tok]) := Lib.hid ((show Cs _ (w1.heap.size) [.int .i64 me, .int .i64 id, .int .i64 (te + (1 + m)), .int .i64 de, .int .i64 fe, .int .i64 pr, .int .i64 ch, .int .i64 un, .string tok] from (by (repeat (first | (with_reducible refine Cs.new ?_; focus (first | rfl | (simp; done) | omega)) | with_reducible refine Cs.alloc ?_ _ | with_reducible refine Cs.drew ?_ | with_reducible refine Cs.drewN ?_ _ | (with_reducible refine Cs.other ?_ ?_ _; focus (first | omega | (simp; omega))) | with_reducible apply Cs.put)) <;> first | rfl | (simp; done))).after hb)
    clear hb
    have lr2 := Crw2.out.1
    have rg0 := (Crw2.out.at 0 rfl).1
    have rg1 := (Crw2.out.at 1 rfl).1
    have rg2 := (Crw2.out.at 2 rfl).1
    have rg3 := (Crw2.out.at 3 rfl).1
    have rg4 := (Crw2.out.at 4 rfl).1
    have rg5 := (Crw2.out.at 5 rfl).1
    have rg6 := (Crw2.out.at 6 rfl).1
    have rg7 := (Crw2.out.at 7 rfl).1
    have rg8 := (Crw2.out.at 8 rfl).1
    go_wp2_with fail
    go_at_call 31
    refine (HSH.out _).mono ?_
    rintro e w3 ⟨rfl, hb⟩
    have HBw3 : Hid (Below w.heap.size w w3) := Lib.hid (below_then' HBw2.out hb)
    clear hb
    go_wp2_with fail
    go_ret
    exact ⟨rfl, HBw3.out⟩
end Go.Proofs.YtccjcdecpgigpaaDoor.ReceiptForged
