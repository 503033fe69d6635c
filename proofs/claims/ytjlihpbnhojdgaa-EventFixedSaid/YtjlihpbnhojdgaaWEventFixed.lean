/- The walk of EventFixed. -/
import Derived.Test.YtjlihpbnhojdgaaEvO
import Derived.Test.YtjlihpbnhojdgaaCell
namespace Go.Proofs.Ytjlihpbnhojdgaa.EventFixed
open Go.RowKit Go.Proofs.Ytjlihpbnhojdgaa.Base Go.Proofs.Ytjlihpbnhojdgaa.Ev
set_option linter.unusedVariables false
set_option linter.unusedSimpArgs false
set_option maxRecDepth 20000
set_option maxHeartbeats 4000000 in
theorem walk (l : List UInt32) (A0 : Option Addr) (c0 : Nat) (w : World) (hr : RdE 1 encW w A0 l) (hsz : l.length * 4 ≤ 140737488351232) :
    Calls Try.prog 11 #[.slice A0 l.length c0] w fun e w' => e = .returned (.bool true) ∧ Below w.heap.size w w' := by
  have HS := Lib.hid (fun W h => Cell.some_any l 20 20 A0 c0 W h rfl (by omega) hsz)
  have HR := Lib.hid hr
  obtain ⟨s, hs⟩ : ∃ s, s = Cell.someL l 20 := ⟨_, rfl⟩
  rw [← hs] at HS
  have HSL := Lib.hid hs
  clear hr hs
  by_cases hk : s.length = 13 ∧ okE (evOf s)
  · obtain ⟨h13, hok⟩ := hk
    have hsl : s = l := by
      have h := HSL.out
      unfold Cell.someL at h
      by_cases h0 : l.take 20 = []
      · rw [if_pos h0] at h
        rw [h] at h13
        cases h13
      · rw [if_neg h0] at h
        have h1 : (l.take 20).length = 13 := by rw [← h]; exact h13
        rw [List.length_take] at h1
        rw [h]
        exact List.take_of_length_le (by omega)
    have HD := Lib.hid (fun A q W h => decode_any s A q W h h13)
    have HY := Lib.hid (fun W => encode_yes (evOf s) hok W)
    rw [if_pos hok, if_pos hok] at HD
    rw [ws_ev s h13] at HY
    generalize evOf s = v at *
    have H13 := Lib.hid h13
    have HE := Lib.hid hsl
    clear h13 hok hsl
    obtain ⟨k, me, mo, id, te, de, fe, pr, ch, un, tag, ow, bp⟩ := v
    unfold Ev.l at HD HY
    simp only at HD HY
    obtain ⟨n, hn⟩ : ∃ n, l.length = n := ⟨_, rfl⟩
    rw [hn]
    rw [hn] at HS
    have HN := Lib.hid hn
    clear hn
    go_enter Try.func11, Try.ntmps11
    go_wp2_with (fail)
    go_at_call 20
    refine (HS.out _ HR.out).mono ?_
    rintro e w1 ⟨B, d, rfl, ho, hb⟩
    have hwz1 := hb.size
    try simp at hwz1
    have HBw1 : Hid (Below w.heap.size w w1) := Lib.hid (below_then' (by repeat (first | with_reducible exact Below.refl _ _ | with_reducible refine blw_alloc ?_ _ | with_reducible refine Below.drew ?_ | with_reducible refine blw_step ?_ _ | with_reducible refine Below.setCell (p := ⟨_, _, none⟩) ?_ (by first | exact Nat.le_refl _ | (simp; done) | (simp; omega) | omega) _)) hb)
    have HO := Lib.hid ho.read
    clear ho
    have HR1 := Lib.hid (HR.out.below hb)
    clear hb
    go_wp2_with (fail)
    go_at_call 34
    refine (HD.out _ _ _ HO.out).mono ?_
    rintro e w2 ⟨rfl, hb⟩
    have hwz2 := hb.size
    try simp at hwz2
    have HBw2 : Hid (Below w.heap.size w w2) := Lib.hid (below_then' (by repeat (first | with_reducible exact HBw1.out | with_reducible refine blw_alloc ?_ _ | with_reducible refine Below.drew ?_ | with_reducible refine blw_step ?_ _ | with_reducible refine Below.setCell (p := ⟨_, _, none⟩) ?_ (by first | exact Nat.le_refl _ | (simp; done) | (simp; omega) | omega) _)) hb)
    have HR2 := Lib.hid (HR1.out.below hb)
    clear hb
    go_wp2_with (fail)
    go_at_call 33
    refine (HY.out _).mono ?_
    rintro e w3 ⟨⟨A, q, rfl, ho⟩, hb⟩
    have hwz3 := hb.size
    try simp at hwz3
    have HBw3 : Hid (Below w.heap.size w w3) := Lib.hid (below_then' (by repeat (first | with_reducible exact HBw2.out | with_reducible refine blw_alloc ?_ _ | with_reducible refine Below.drew ?_ | with_reducible refine blw_step ?_ _ | with_reducible refine Below.setCell (p := ⟨_, _, none⟩) ?_ (by first | exact Nat.le_refl _ | (simp; done) | (simp; omega) | omega) _)) hb)
    have HO3 := Lib.hid ho
    clear ho
    have HR3 := Lib.hid ((HR2.out.below (blw_alloc (Below.refl _ _) _)).below hb)
    clear hb
    obtain ⟨A1, c1, e1, hrd⟩ := own_read (enc := encW) (xs := s) (fun _ => rfl) (by decide) (by rw [H13.out]; exact HO3.out)
    rw [H13.out] at e1
    cases e1
    have HRD := Lib.hid hrd
    clear hrd
    have HSM := Lib.hid (fun c d => Cell.same_any s l A A0 c d w3 HRD.out HR3.out)
    rw [H13.out, HN.out, decide_eq_true HE.out] at HSM
    go_wp2_with fail
    go_at_call 21
    refine (HSM.out _ _).mono ?_
    rintro e w4 ⟨rfl, k, rfl⟩
    go_wp2_with fail
    go_ret
    exact ⟨rfl, blw_step HBw3.out _⟩
  · obtain ⟨c, hc0, hc⟩ : ∃ c : Int, c ≠ 0 ∧ ∀ A q W, RdE 1 encW W A s → Calls Try.prog 34 #[.slice A s.length q] W fun e w' => e = .returned (.tuple #[.agg zeroEv.l.toArray, .int .i64 c]) ∧ Below W.heap.size W w' := by
      by_cases h13 : s.length = 13
      · have hok : ¬ okE (evOf s) := fun h => hk ⟨h13, h⟩
        refine ⟨5, by decide, fun A q W h => ?_⟩
        have := decode_any s A q W h h13
        rwa [if_neg hok, if_neg hok] at this
      · exact ⟨1, by decide, fun A q W h => decode_size s A q W h13⟩
    have hcn : (c != 0) = true := bne_iff_ne.mpr hc0
    have HD := Lib.hid hc
    unfold Ev.l zeroEv at HD
    simp only at HD
    have heq : ∀ W : World, (Op.equalIn 10000 78 (.agg #[.int .i64 0, .int .i64 0, .int .i64 0, .int .i64 0, .int .i64 0, .int .i64 0, .int .i64 0, .int .i64 0, .int .i64 0, .int .i64 0, .int .i64 0, .int .i64 0, .int .i64 0]) (.agg #[.int .i64 0, .int .i64 0, .int .i64 0, .int .i64 0, .int .i64 0, .int .i64 0, .int .i64 0, .int .i64 0, .int .i64 0, .int .i64 0, .int .i64 0, .int .i64 0, .int .i64 0])).run Try.prog W = .ok true W := fun W => by
      rw [eql_ev]
      simp
    clear hk hc hc0
    obtain ⟨n, hn⟩ : ∃ n, l.length = n := ⟨_, rfl⟩
    rw [hn]
    rw [hn] at HS
    have HN := Lib.hid hn
    clear hn
    go_enter Try.func11, Try.ntmps11
    go_wp2_with (fail)
    go_at_call 20
    refine (HS.out _ HR.out).mono ?_
    rintro e w1 ⟨B, d, rfl, ho, hb⟩
    have hwz1 := hb.size
    try simp at hwz1
    have HBw1 : Hid (Below w.heap.size w w1) := Lib.hid (below_then' (by repeat (first | with_reducible exact Below.refl _ _ | with_reducible refine blw_alloc ?_ _ | with_reducible refine Below.drew ?_ | with_reducible refine blw_step ?_ _ | with_reducible refine Below.setCell (p := ⟨_, _, none⟩) ?_ (by first | exact Nat.le_refl _ | (simp; done) | (simp; omega) | omega) _)) hb)
    have HO := Lib.hid ho.read
    clear ho
    have HR1 := Lib.hid (HR.out.below hb)
    clear hb
    go_wp2_with (fail)
    go_at_call 34
    refine (HD.out _ _ _ HO.out).mono ?_
    rintro e w2 ⟨rfl, hb⟩
    have hwz2 := hb.size
    try simp at hwz2
    have HBw2 : Hid (Below w.heap.size w w2) := Lib.hid (below_then' (by repeat (first | with_reducible exact HBw1.out | with_reducible refine blw_alloc ?_ _ | with_reducible refine Below.drew ?_ | with_reducible refine blw_step ?_ _ | with_reducible refine Below.setCell (p := ⟨_, _, none⟩) ?_ (by first | exact Nat.le_refl _ | (simp; done) | (simp; omega) | omega) _)) hb)
    have HR2 := Lib.hid (HR1.out.below hb)
    clear hb
    go_wp2_with fail
    go_ret
    exact ⟨rfl, blw_alloc HBw2.out _⟩
end Go.Proofs.Ytjlihpbnhojdgaa.EventFixed
