/- The walk of MeterFixed. -/
import Derived.Test.YtjlihpbnhojdgaaMetR
import Derived.Deep.RegionHeld3
namespace Go.Proofs.Ytjlihpbnhojdgaa.MeterFixed
open Go.RowKit Go.Proofs.Ytjlihpbnhojdgaa.Base Go.Proofs.Ytjlihpbnhojdgaa.Win Go.Proofs.Ytjlihpbnhojdgaa.Cell Go.Proofs.Ytjlihpbnhojdgaa.Met
set_option linter.unusedVariables false
set_option linter.unusedSimpArgs false
set_option maxRecDepth 20000
theorem some_full (l : List UInt32) (h : l ≠ []) : someL l l.length = l := by
  unfold someL
  rw [List.take_of_length_le (Nat.le_refl _), if_neg h]
set_option maxHeartbeats 2000000 in
theorem walk (l : List UInt32) (A : Option Addr) (c : Nat) (w : World) (hr : RdE 1 encW w A l) (hl : l.length * 4 ≤ 140737488351232) :
    Calls Try.prog 5 #[.slice A l.length c] w fun e w' => e = .returned (.bool true) ∧ Below w.heap.size w w' := by
  have HS := Lib.hid (some_any l l.length (l.length : Int) A c w hr rfl (by omega) hl)
  by_cases h5 : l.length = 5
  · match l, h5 with
    | [x0, x1, x2, x3, x4], _ =>
      have hsf := some_full [x0, x1, x2, x3, x4] (by simp)
      rw [hsf] at HS
      have HR := Lib.hid hr
      clear hsf hr hl h5
      have HRd := Lib.hid (fun (w : World) (A : Option Addr) (c : Nat) (h : RdE 1 encW w A [x0, x1, x2, x3, x4]) => read_any _ _ _ _ _ A c w h)
      cases hm : mmay (readN x0.toNat x1.toNat x2.toNat x3.toNat x4.toNat)
      · have HRR := Lib.hid (show readR x0.toNat x1.toNat x2.toNat x3.toNat x4.toNat = (zeroM, 5) by unfold readR; rw [hm]; rfl)
        rw [HRR.out] at HRd
        unfold zeroM Mt.vals at HRd
        simp only at HRd
        clear hm
        simp only [List.length_cons, List.length_nil] at HS ⊢
        go_enter Try.func5, Try.ntmps5
        go_wp2_with (fail)
        go_at_call 20
        refine HS.out.mono ?_
        rintro e w1 ⟨B, d, rfl, ho, hb⟩
        have HB := Lib.hid hb
        have HO := Lib.hid ho.read
        clear hb ho
        go_wp2_with (fail)
        go_at_call 19
        refine (HRd.out _ _ _ HO.out).mono ?_
        rintro e w2 ⟨rfl, hb⟩
        have HB2 := Lib.hid (below_then' HB.out hb)
        clear hb
        go_wp2
        go_ret
        exact ⟨rfl, blw_alloc HB2.out _⟩
      · have HRR := Lib.hid (show readR x0.toNat x1.toNat x2.toNat x3.toNat x4.toNat = (readN x0.toNat x1.toNat x2.toNat x3.toNat x4.toNat, 0) by unfold readR; rw [hm]; rfl)
        have ok := readN_ok x0.toNat x1.toNat x2.toNat x3.toNat x4.toNat x0.toNat_lt x1.toNat_lt x2.toNat_lt x3.toNat_lt x4.toNat_lt
        have HWD := Lib.hid (fun w => words_yes _ w ok hm)
        rw [words_read _ _ _ _ _ hm] at HWD
        rw [HRR.out] at HRd
        obtain ⟨m, hmm⟩ : ∃ m, m = readN x0.toNat x1.toNat x2.toNat x3.toNat x4.toNat := ⟨_, rfl⟩
        rw [← hmm] at HRd HWD
        obtain ⟨me, rev, cr, wh, wb, bad, lock⟩ := m
        unfold Mt.vals at HRd HWD
        simp only at HRd HWD
        clear hm HRR ok hmm
        simp only [List.length_cons, List.length_nil] at HS HWD ⊢
        go_enter Try.func5, Try.ntmps5
        go_wp2_with (fail)
        go_at_call 20
        refine HS.out.mono ?_
        rintro e w1 ⟨B, d, rfl, ho, hb⟩
        have HB := Lib.hid hb
        have HO := Lib.hid ho.read
        clear hb ho
        go_wp2_with (fail)
        go_at_call 19
        refine (HRd.out _ _ _ HO.out).mono ?_
        rintro e w2 ⟨rfl, hb⟩
        have HB2 := Lib.hid (below_then' HB.out hb)
        clear hb
        go_wp2_with (fail)
        go_at_call 18
        refine (HWD.out _).mono ?_
        rintro e w3 ⟨B3, d3, rfl, ho, hb⟩
        have HB3 := Lib.hid (below_then' (blw_alloc HB2.out _) hb)
        have HO3 := Lib.hid ho.read
        have HR3 := Lib.hid (HR.out.below HB3.out)
        clear hb ho
        simp only [List.length_cons, List.length_nil]
        have hsame := same_any [x0, x1, x2, x3, x4] [x0, x1, x2, x3, x4] B3 A d3 c w3 HO3.out HR3.out
        rw [decide_eq_true rfl] at hsame
        have HSM := Lib.hid hsame
        clear hsame
        go_wp2_with (fail)
        refine HSM.out.mono ?_
        rintro e w4 ⟨rfl, n, rfl⟩
        go_wp2
        go_ret
        exact ⟨rfl, blw_step HB3.out _⟩
  · have hsl : (someL l l.length).length ≠ 5 := by
      by_cases h0 : l = []
      · subst h0; decide
      · rw [some_full l h0]; exact h5
    have hs2 : (someL l l.length).length ≤ 140737488351232 := by
      by_cases h0 : l = []
      · subst h0; decide
      · rw [some_full l h0]; omega
    have HRd := Lib.hid (fun w A c => read_size (someL l l.length).length A c w hsl (by omega))
    have HSL := Lib.hid hsl
    unfold zeroM Mt.vals at HRd
    simp only at HRd
    generalize someL l l.length = L at *
    have hmx := hr.1
    clear hr h5 hsl
    go_enter Try.func5, Try.ntmps5
    go_wp2_with (fail)
    go_at_call 20
    refine HS.out.mono ?_
    rintro e w1 ⟨B, d, rfl, ho, hb⟩
    have HB := Lib.hid hb
    clear hb ho
    go_wp2_with (fail)
    go_at_call 19
    refine (HRd.out _ _ _).mono ?_
    rintro e w2 ⟨rfl, hb⟩
    have HB2 := Lib.hid (below_then' HB.out hb)
    clear hb
    go_wp2
    go_ret
    exact ⟨rfl, blw_alloc HB2.out _⟩
end Go.Proofs.Ytjlihpbnhojdgaa.MeterFixed
