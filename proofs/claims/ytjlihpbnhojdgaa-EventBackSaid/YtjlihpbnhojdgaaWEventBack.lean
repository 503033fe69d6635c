/- The walk of EventBack. -/
import Derived.Test.YtjlihpbnhojdgaaEvO
namespace Go.Proofs.Ytjlihpbnhojdgaa.EventBack
open Go.RowKit Go.Proofs.Ytjlihpbnhojdgaa.Base Go.Proofs.Ytjlihpbnhojdgaa.Ev
set_option linter.unusedVariables false
set_option linter.unusedSimpArgs false
set_option maxRecDepth 20000
set_option maxHeartbeats 4000000 in
theorem walk (v : Ev) (cs : List Value) (w : World) (hx : cs = v.l) :
    Calls Try.prog 10 #[.agg cs.toArray] w fun e w' => e = .returned (.bool true) ∧ Below w.heap.size w w' := by
  subst hx
  by_cases hv : okE v
  · have HY := Lib.hid (fun W => encode_yes v hv W)
    have HD := Lib.hid (fun A q W h => decode_13 v.ws A q W h (ws_len v))
    rw [back_ev v hv, if_pos hv, if_pos hv] at HD
    have hfl : v.ws.length = 13 := rfl
    generalize v.ws = L at *
    have HFL := Lib.hid hfl
    clear hv hfl
    obtain ⟨k, me, mo, id, te, de, fe, pr, ch, un, tag, ow, bp⟩ := v
    unfold Ev.l at HY HD ⊢
    simp only at HY HD ⊢
    have heq : ∀ W : World, (Op.equalIn 10000 78 (.agg #[.int .i64 k, .int .i64 me, .int .i64 mo, .int .i64 id, .int .i64 te, .int .i64 de, .int .i64 fe, .int .i64 pr, .int .i64 ch, .int .i64 un, .int .i64 tag, .int .i64 ow, .int .i64 bp]) (.agg #[.int .i64 k, .int .i64 me, .int .i64 mo, .int .i64 id, .int .i64 te, .int .i64 de, .int .i64 fe, .int .i64 pr, .int .i64 ch, .int .i64 un, .int .i64 tag, .int .i64 ow, .int .i64 bp])).run Try.prog W = .ok true W := fun W => by
      rw [eql_ev]
      simp
    go_enter Try.func10, Try.ntmps10
    go_wp2_with (fail)
    go_at_call 33
    refine (HY.out _).mono ?_
    rintro e w1 ⟨⟨A, q, rfl, ho⟩, hb⟩
    have hwz1 := hb.size
    try simp at hwz1
    have HBw1 : Hid (Below w.heap.size w w1) := Lib.hid (below_then' (by repeat (first | with_reducible exact Below.refl _ _ | with_reducible refine blw_alloc ?_ _ | with_reducible refine Below.drew ?_ | with_reducible refine blw_step ?_ _ | with_reducible refine Below.setCell (p := ⟨_, _, none⟩) ?_ (by first | exact Nat.le_refl _ | (simp; done) | (simp; omega) | omega) _)) hb)
    have Cvw1 : Hid (Cs w1 (w.heap.size) [.int .i64 k, .int .i64 me, .int .i64 mo, .int .i64 id, .int .i64 te, .int .i64 de, .int .i64 fe, .int .i64 pr, .int .i64 ch, .int .i64 un, .int .i64 tag, .int .i64 ow, .int .i64 bp]) := Lib.hid ((show Cs _ (w.heap.size) [.int .i64 k, .int .i64 me, .int .i64 mo, .int .i64 id, .int .i64 te, .int .i64 de, .int .i64 fe, .int .i64 pr, .int .i64 ch, .int .i64 un, .int .i64 tag, .int .i64 ow, .int .i64 bp] from (by (repeat (first | (with_reducible refine Cs.new ?_; focus (first | rfl | (simp; done) | omega)) | with_reducible refine Cs.alloc ?_ _ | with_reducible refine Cs.drew ?_ | with_reducible refine Cs.drewN ?_ _ | (with_reducible refine Cs.other ?_ ?_ _; focus (first | omega | (simp; omega))) | with_reducible apply Cs.put)) <;> first | rfl | (simp; done))).after hb)
    have HO := Lib.hid ho
    clear ho
    clear hb
    have lvw1 := Cvw1.out.1
    obtain ⟨A1, c1, e1, hrd⟩ := own_read (enc := encW) (xs := L) (fun _ => rfl) (by decide) (by rw [HFL.out]; exact HO.out)
    rw [HFL.out] at e1
    cases e1
    have HRD := Lib.hid hrd
    clear hrd
    go_wp2_with (fail)
    go_at_call 34
    refine (HD.out _ _ _ HRD.out).mono ?_
    rintro e w2 ⟨rfl, hb⟩
    have hwz2 := hb.size
    try simp at hwz2
    have HBw2 : Hid (Below w.heap.size w w2) := Lib.hid (below_then' (by repeat (first | with_reducible exact HBw1.out | with_reducible refine blw_alloc ?_ _ | with_reducible refine Below.drew ?_ | with_reducible refine blw_step ?_ _ | with_reducible refine Below.setCell (p := ⟨_, _, none⟩) ?_ (by first | exact Nat.le_refl _ | (simp; done) | (simp; omega) | omega) _)) hb)
    have Cvw2 : Hid (Cs w2 (w.heap.size) [.int .i64 k, .int .i64 me, .int .i64 mo, .int .i64 id, .int .i64 te, .int .i64 de, .int .i64 fe, .int .i64 pr, .int .i64 ch, .int .i64 un, .int .i64 tag, .int .i64 ow, .int .i64 bp]) := Lib.hid ((show Cs _ (w.heap.size) [.int .i64 k, .int .i64 me, .int .i64 mo, .int .i64 id, .int .i64 te, .int .i64 de, .int .i64 fe, .int .i64 pr, .int .i64 ch, .int .i64 un, .int .i64 tag, .int .i64 ow, .int .i64 bp] from (by (repeat (first | with_reducible exact Cvw1.out | (with_reducible refine Cs.new ?_; focus (first | rfl | (simp; done) | omega)) | with_reducible refine Cs.alloc ?_ _ | with_reducible refine Cs.drew ?_ | with_reducible refine Cs.drewN ?_ _ | (with_reducible refine Cs.other ?_ ?_ _; focus (first | omega | (simp; omega))) | with_reducible apply Cs.put)) <;> first | rfl | (simp; done))).after hb)
    clear hb
    have lvw2 := Cvw2.out.1
    have vw2g0 := (Cvw2.out.at 0 rfl).1
    have vw2g1 := (Cvw2.out.at 1 rfl).1
    have vw2g2 := (Cvw2.out.at 2 rfl).1
    have vw2g3 := (Cvw2.out.at 3 rfl).1
    have vw2g4 := (Cvw2.out.at 4 rfl).1
    have vw2g5 := (Cvw2.out.at 5 rfl).1
    have vw2g6 := (Cvw2.out.at 6 rfl).1
    have vw2g7 := (Cvw2.out.at 7 rfl).1
    have vw2g8 := (Cvw2.out.at 8 rfl).1
    have vw2g9 := (Cvw2.out.at 9 rfl).1
    have vw2g10 := (Cvw2.out.at 10 rfl).1
    have vw2g11 := (Cvw2.out.at 11 rfl).1
    have vw2g12 := (Cvw2.out.at 12 rfl).1
    go_wp2_with fail
    go_ret
    exact ⟨rfl, blw_alloc HBw2.out _⟩
  · have HN := Lib.hid (fun W => encode_no v hv W)
    clear hv
    obtain ⟨k, me, mo, id, te, de, fe, pr, ch, un, tag, ow, bp⟩ := v
    unfold Ev.l at HN ⊢
    simp only at HN ⊢
    go_enter Try.func10, Try.ntmps10
    go_wp2_with (fail)
    go_at_call 33
    refine (HN.out _).mono ?_
    rintro e w1 ⟨rfl, hb⟩
    have hwz1 := hb.size
    try simp at hwz1
    have HBw1 : Hid (Below w.heap.size w w1) := Lib.hid (below_then' (by repeat (first | with_reducible exact Below.refl _ _ | with_reducible refine blw_alloc ?_ _ | with_reducible refine Below.drew ?_ | with_reducible refine blw_step ?_ _ | with_reducible refine Below.setCell (p := ⟨_, _, none⟩) ?_ (by first | exact Nat.le_refl _ | (simp; done) | (simp; omega) | omega) _)) hb)
    clear hb
    go_wp2_with fail
    go_ret
    exact ⟨rfl, HBw1.out⟩
end Go.Proofs.Ytjlihpbnhojdgaa.EventBack
