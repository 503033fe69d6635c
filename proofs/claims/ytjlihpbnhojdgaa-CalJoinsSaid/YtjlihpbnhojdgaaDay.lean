/- The contract of calendar.Day. -/
import Derived.Test.YtjlihpbnhojdgaaDateOf
namespace Go.Proofs.Ytjlihpbnhojdgaa.Cal
open Go.RowKit Go.Proofs.Ytjlihpbnhojdgaa.Base
set_option linter.unusedVariables false
set_option linter.unusedSimpArgs false
set_option maxRecDepth 20000

theorem known_yes (y : Int) (w : World) (h0 : 2000 ≤ y) (h1 : y ≤ 2199) :
    Calls Try.prog 68 #[.int .i64 y] w fun e w' => e = .returned (.bool true) ∧ w = w' := by
  go_enter Try.func68, Try.ntmps68
  go_wp2
  go_ret
  exact ⟨rfl, rfl⟩
theorem months_le (y : Int) : ∀ k, monthsI y k ≤ 31 * k
  | 0 => by simp [monthsI]
  | k + 1 => by
    have := months_le y k
    have := long_bd y ((k : Int) + 1)
    simp only [monthsI]
    omega
set_option maxHeartbeats 1000000 in
theorem day_any (n y m d : Int) (w : World) (h : DateIs n y m d) :
    Calls Try.prog 48 #[.agg #[.int .i64 y, .int .i64 m, .int .i64 d]] w fun e w' => e = .returned (.tuple #[.int .i64 n, .int .i64 0]) ∧ Below w.heap.size w w' := by
  obtain ⟨⟨y0, y1⟩, ⟨m0, m1⟩, ⟨d0, d1⟩, hn⟩ := h
  have HN := Lib.hid hn
  have ha : aheadI 2000 = 730119 := by decide
  have HA := Lib.hid ha
  have hab : 730119 ≤ aheadI y ∧ aheadI y ≤ 10000000 := by unfold aheadI; omega
  obtain ⟨r0, r1⟩ := hab
  have lb := long_bd y m
  obtain ⟨lb0, lb1⟩ := lb
  have HD1 := Lib.hid d1
  have hd31 : d ≤ 31 := by omega
  have t1 : decide (d > longI y m) = false := decide_eq_false (by omega)
  have t2 : decide (longI y m < d) = false := decide_eq_false (by omega)
  have hq1 := Lib.hid (fun w => known_yes y w y0 y1)
  have hq2 := Lib.hid (fun w => long_any y m w (by omega) (by omega))
  have hq3 := Lib.hid (fun w => ahead_any y w (by omega) (by omega))
  have hq40 := fun w => ahead_any 2000 w (by omega) (by omega)
  simp only [ha] at hq40
  have hq4 := Lib.hid hq40
  clear hq40
  clear hn ha d1
  go_enter Try.func48, Try.ntmps48
  go_wp2
  go_quiet (first | (go_at_call 68; exact quiet_same (hq1.out _)) | (go_at_call 49; exact quiet_same (hq2.out _)))
  go_wp2
  have B0 : Below w.heap.size w ((w.alloc (.cells #[.int .i64 y, .int .i64 m, .int .i64 d] 107)).drewN nq) := blw_step (blw_alloc (Below.refl _ _) _) _
  have k0 : ((w.alloc (.cells #[.int .i64 y, .int .i64 m, .int .i64 d] 107)).drewN nq).cell? ⟨w.heap.size, 0, none⟩ = some (.int .i64 y) := by go_simp
  have k1 : ((w.alloc (.cells #[.int .i64 y, .int .i64 m, .int .i64 d] 107)).drewN nq).cell? ⟨w.heap.size, 1, none⟩ = some (.int .i64 m) := by go_simp
  have k2 : ((w.alloc (.cells #[.int .i64 y, .int .i64 m, .int .i64 d] 107)).drewN nq).cell? ⟨w.heap.size, 2, none⟩ = some (.int .i64 d) := by go_simp
  generalize ((w.alloc (.cells #[.int .i64 y, .int .i64 m, .int .i64 d] 107)).drewN nq) = wq at *
  have HB0 := Lib.hid B0
  clear B0
  have ha0 : 730119 ≤ aheadI 2000 := by rw [HA.out]; omega
  have ha1 : aheadI 2000 ≤ 730119 := by rw [HA.out]; omega
  go_quiet ((go_at_call 69; exact quiet_same (ahead_any _ _ (by omega) (by omega))))
  go_wp2
  go_loopw [4, 5] (fun v i wr => ∃ k : Nat, (k : Int) + 1 ≤ m ∧ i = .int .i64 ((k : Int) + 1) ∧ v = .int .i64 (aheadI y - aheadI 2000 + d - 1 + monthsI y k) ∧ Below w.heap.size w wr ∧ wr.cell? ⟨w.heap.size, 0, none⟩ = some (.int .i64 y) ∧ wr.cell? ⟨w.heap.size, 1, none⟩ = some (.int .i64 m) ∧ wr.cell? ⟨w.heap.size, 2, none⟩ = some (.int .i64 d)) (fun _ i _ => (m - intOf i).toNat)
  case atStart => exact ⟨0, by omega, rfl, by simp [monthsI], blw_step HB0.out _, by go_simp, by go_simp, by go_simp⟩
  case round =>
    obtain ⟨k, hk, rfl, rfl, hb, c0, c1, c2⟩ := hrel
    have HB := Lib.hid hb
    clear hb
    have mb0 := months_nonneg y k
    have mb1 := months_le y k
    have hk12 : k ≤ 11 := by omega
    by_cases hlt : (k : Int) + 1 < m
    · have hlk := Lib.hid (fun w => long_any y ((k : Int) + 1) w (by omega) (by omega))
      have hst := Lib.hid (show monthsI y (k + 1) = monthsI y k + longI y ((k : Int) + 1) from rfl)
      obtain ⟨lb0, lb1⟩ := long_bd y ((k : Int) + 1)
      go_wp2_with (go_at_call 49; refine (hlk.out _).mono ?_; rintro e w' ⟨rfl, rfl⟩)
      go_roundw
      case rel =>
        refine ⟨k + 1, by omega, by go_num, ?_, HB.out, c0, c1, c2⟩
        rw [hst.out]
        congr 1
        omega
      case measure => simp [intOf]; omega
    · have hkm : (m - 1).toNat = k := by omega
      have hfin : aheadI y - aheadI 2000 + d - 1 + monthsI y k = n := by
        have h1 := HN.out
        rw [hkm] at h1
        omega
      have HF := Lib.hid hfin
      rw [hfin]
      clear hfin hkm
      go_wp2
      go_ret2
      exact ⟨rfl, HB.out⟩
end Go.Proofs.Ytjlihpbnhojdgaa.Cal
