/- The contract of calendar.DateOf. -/
import Derived.Test.YtjlihpbnhojdgaaCal
namespace Go.Proofs.Ytjlihpbnhojdgaa.Cal
open Go.RowKit Go.Proofs.Ytjlihpbnhojdgaa.Base
set_option linter.unusedVariables false
set_option linter.unusedSimpArgs false
set_option maxRecDepth 20000

def monthsI (y : Int) : Nat → Int
  | 0 => 0
  | k + 1 => monthsI y k + longI y ((k : Int) + 1)
theorem months_year (y : Int) : monthsI y 12 = yearI y := by
  simp only [monthsI, longI, yearI]
  cases leapB y <;> simp
theorem months_nonneg (y : Int) : ∀ k, 0 ≤ monthsI y k
  | 0 => Int.le_refl _
  | k + 1 => by
    have := months_nonneg y k
    have := long_bd y ((k : Int) + 1)
    simp only [monthsI]
    omega
/-- The date of a day. -/
def DateIs (n y m d : Int) : Prop := (2000 ≤ y ∧ y ≤ 2199) ∧ (1 ≤ m ∧ m ≤ 12) ∧ (1 ≤ d ∧ d ≤ longI y m) ∧ n = aheadI y - aheadI 2000 + monthsI y (m - 1).toNat + d - 1
structure Dt (w : World) (b : Nat) (y m d : Int) : Prop where
  c0 : w.cell? ⟨b, 0, none⟩ = some (.int .i64 y)
  c1 : w.cell? ⟨b, 1, none⟩ = some (.int .i64 m)
  c2 : w.cell? ⟨b, 2, none⟩ = some (.int .i64 d)
  f0 : w.frozen? ⟨b, 0, none⟩ = false
  f1 : w.frozen? ⟨b, 1, none⟩ = false
  f2 : w.frozen? ⟨b, 2, none⟩ = false
theorem guess (n : Int) (h0 : 0 ≤ n) (h1 : n ≤ 73048) : 0 ≤ n - (aheadI (2000 + n / 366) - aheadI 2000) := by
  unfold aheadI
  omega
theorem year_top (y : Int) (n : Int) (h0 : 2000 ≤ y) (h1 : n ≤ 73048) (h : 0 ≤ n - (aheadI y - aheadI 2000)) : y ≤ 2199 := by
  unfold aheadI at h
  omega
theorem dateOf_any (n : Int) (w : World) (h0 : 0 ≤ n) (h1 : n ≤ 73048) :
    Calls Try.prog 50 #[.int .i64 n] w fun e w' => (∃ y m d, e = .returned (.tuple #[.agg #[.int .i64 y, .int .i64 m, .int .i64 d], .int .i64 0]) ∧ DateIs n y m d) ∧ Below w.heap.size w w' := by
  have hg := guess n h0 h1
  have ha : aheadI 2000 = 730119 := by decide
  have HA := Lib.hid ha
  have hb0 : 0 ≤ n / 366 ∧ n / 366 ≤ 199 := by omega
  obtain ⟨q0, q1⟩ := hb0
  have hab : 730119 ≤ aheadI (2000 + n / 366) ∧ aheadI (2000 + n / 366) ≤ 10000000 := by unfold aheadI; omega
  obtain ⟨r0, r1⟩ := hab
  rw [ha] at hg
  go_enter Try.func50, Try.ntmps50
  go_wp2_with (go_at_call 69; refine (ahead_any _ _ (by omega) (by omega)).mono ?_; rintro e w' ⟨rfl, rfl⟩; try rw [HA.out])
  go_loopw [5, 6] (fun v _ wr => ∃ y left : Int, v = .int .i64 left ∧ 2000 ≤ y ∧ 0 ≤ left ∧ left = n - (aheadI y - 730119) ∧ Dt wr (w.heap.size + 1) y 1 0 ∧ Dt wr w.heap.size 0 0 0 ∧ Below w.heap.size w wr ∧ w.heap.size + 1 < wr.heap.size) (fun v _ _ => (intOf v).toNat)
  case atStart =>
    refine ⟨2000 + n / 366, _, rfl, by omega, hg, rfl, ⟨?_, ?_, ?_, ?_, ?_, ?_⟩, ⟨?_, ?_, ?_, ?_, ?_, ?_⟩, blw_alloc (blw_alloc (Below.refl _ _) _) _, by simp⟩
    all_goals go_simp
  case round =>
    obtain ⟨y, left, rfl, hy, hl0, hle, hd, hr, hbl, hsz⟩ := hrel
    have hy1 : y ≤ 2199 := year_top y n hy h1 (by rw [HA.out]; omega)
    have HLE := Lib.hid hle
    have HB := Lib.hid hbl
    have HR := Lib.hid hr
    have HD := Lib.hid hd
    obtain ⟨c0, c1, c2, f0, f1, f2⟩ := hd
    have hl1 : left ≤ 10000000 := by unfold aheadI at hle; omega
    have HAN := Lib.hid (ahead_next y)
    clear hle hr hbl
    obtain ⟨yl, hyl⟩ : ∃ yl, yl = yearI y := ⟨_, rfl⟩
    have HYL := Lib.hid hyl
    have hyl2 : yl = if leapB y then 366 else 365 := hyl
    clear hyl
    cases hlp : leapB y
    all_goals
      have HLP := Lib.hid hlp
      rw [hlp] at hyl2
      simp only [if_true, if_false, Bool.false_eq_true] at hyl2
      clear hlp
      have HYV := Lib.hid hyl2
      clear hyl2
      by_cases hlt : left < yl
      · have hlt2 := hlt
        rw [HYV.out] at hlt2
        go_wp2_with (go_at_call 70; refine (leap_any _ _ (by omega) (by omega)).mono ?_; rw [HLP.out]; rintro e w' ⟨rfl, rfl⟩)
        go_loopw [5] (fun v wr => ∃ (k : Nat) (l2 : Int), k ≤ 11 ∧ v = .int .i64 l2 ∧ 0 ≤ l2 ∧ monthsI y k + l2 = left ∧ Dt wr (w.heap.size + 1) y ((k : Int) + 1) 0 ∧ Dt wr w.heap.size 0 0 0 ∧ Below w.heap.size w wr ∧ w.heap.size + 1 < wr.heap.size) (fun v _ => (intOf v).toNat)
        case atStart => exact ⟨0, left, by omega, rfl, hl0, by simp [monthsI], HD.out, HR.out, HB.out, hsz⟩
        case round =>
          obtain ⟨k, l2, hk, rfl, hl2, hms, hd, hr, hbl, hsz2⟩ := hrel
          have HMS := Lib.hid hms
          have HB2 := Lib.hid hbl
          have HD2 := Lib.hid hd
          have HR2 := Lib.hid hr
          have hl3 : l2 ≤ 10000000 := by have := months_nonneg y k; omega
          have hst := Lib.hid (show monthsI y (k + 1) = monthsI y k + longI y ((k : Int) + 1) from rfl)
          obtain ⟨d0, d1, d2, e0, e1, e2⟩ := hd
          obtain ⟨s0, s1, s2, t0, t1, t2⟩ := hr
          clear hms hbl c0 c1 c2 f0 f1 f2
          have lb := long_bd y ((k : Int) + 1)
          obtain ⟨lb0, lb1⟩ := lb
          generalize hlg : longI y ((k : Int) + 1) = lg at *
          have HLG := Lib.hid hlg
          clear hlg
          have hlong := Lib.hid (fun w => long_any y ((k : Int) + 1) w (by omega) (by omega))
          rw [HLG.out] at hlong
          by_cases hge : l2 ≥ lg
          · have hk10 : k ≤ 10 := by
              rcases Nat.lt_or_ge k 11 with h | h
              · omega
              · exfalso
                have : k = 11 := by omega
                subst this
                have h12 := months_year y
                have h13 : monthsI y 12 = monthsI y 11 + lg := hst.out
                have h14 := HMS.out
                have h15 := HYL.out
                omega
            go_wp2_with (go_at_call 49; refine (hlong.out _).mono ?_; rintro e w' ⟨rfl, rfl⟩)
            go_roundw
            case rel =>
              refine ⟨k + 1, l2 - lg, by omega, rfl, by omega, ?_, ⟨?_, ?_, ?_, ?_, ?_, ?_⟩, ⟨?_, ?_, ?_, ?_, ?_, ?_⟩, HB2.out.setCell (by simp) _, by simpa using hsz2⟩
              · have := hst.out; have := HMS.out; omega
              all_goals (first | go_simp | (simp only [Int.natCast_add]; go_simp))
            case measure => simp [intOf]; omega
          · go_wp2_with (go_at_call 49; refine (hlong.out _).mono ?_; rintro e w' ⟨rfl, rfl⟩)
            refine bodyPost_ret (v := .tuple #[.agg #[.int .i64 y, .int .i64 ((k : Int) + 1), .int .i64 (l2 + 1)], .int .i64 0]) (by simp [results, Try.results50, go_sem, d0, d1, d2, s0, s1, s2]) rfl ⟨⟨y, (k : Int) + 1, l2 + 1, rfl, ?_⟩, ?_⟩
            · have h4 := HLE.out
              have h5 := HMS.out
              have h6 := HLG.out
              refine ⟨⟨hy, hy1⟩, ⟨by omega, by omega⟩, ⟨by omega, by rw [h6]; omega⟩, ?_⟩
              have h7 : ((k : Int) + 1 - 1).toNat = k := by omega
              rw [h7, HA.out]
              omega
            · repeat (first | with_reducible exact HB2.out | refine Below.setCell ?_ (by first | exact Nat.le_refl _ | exact Nat.le_succ _) _)
      · have hlt2 := hlt
        rw [HYV.out] at hlt2
        go_wp2_with (go_at_call 70; refine (leap_any _ _ (by omega) (by omega)).mono ?_; rw [HLP.out]; rintro e w' ⟨rfl, rfl⟩)
        go_roundw
        case rel =>
          refine ⟨y + 1, _, rfl, by omega, by omega, ?_, ⟨?_, ?_, ?_, ?_, ?_, ?_⟩, ⟨?_, ?_, ?_, ?_, ?_, ?_⟩, HB.out.setCell (by simp) _, by simpa using hsz⟩
          · have h2 := HAN.out
            have h3 := HYL.out
            have h4 := HYV.out
            have h5 := HLE.out
            omega
          all_goals (obtain ⟨s0, s1, s2, t0, t1, t2⟩ := HR.out; go_simp)
        case measure => simp [intOf]; omega
end Go.Proofs.Ytjlihpbnhojdgaa.Cal
