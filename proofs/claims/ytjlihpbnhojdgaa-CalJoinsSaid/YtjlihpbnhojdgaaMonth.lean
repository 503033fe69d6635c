/- Months: contracts of calendar.Days, calendar.Month. -/
import Derived.Test.YtjlihpbnhojdgaaDay
namespace Go.Proofs.Ytjlihpbnhojdgaa.Cal
open Go.RowKit Go.Proofs.Ytjlihpbnhojdgaa.Base
set_option linter.unusedVariables false
set_option linter.unusedSimpArgs false
set_option maxRecDepth 20000

theorem months_mono (y : Int) (j : Nat) : ∀ k, j ≤ k → monthsI y j ≤ monthsI y k
  | 0, h => by
    obtain rfl : j = 0 := by omega
    exact Int.le_refl _
  | k + 1, h => by
    by_cases e : j = k + 1
    · subst e; exact Int.le_refl _
    · have := months_mono y j k (by omega)
      have := long_bd y ((k : Int) + 1)
      simp only [monthsI]
      omega
theorem in_year {y m d : Int} (h1 : 1 ≤ m ∧ m ≤ 12) (h2 : 1 ≤ d ∧ d ≤ longI y m) : monthsI y (m - 1).toNat + d ≤ monthsI y m.toNat := by
  have e : m.toNat = (m - 1).toNat + 1 := by omega
  have h := show monthsI y ((m - 1).toNat + 1) = monthsI y (m - 1).toNat + longI y (((m - 1).toNat : Int) + 1) from rfl
  have e2 : (((m - 1).toNat : Int) + 1) = m := by omega
  rw [e2] at h
  rw [e, h]
  omega
theorem ahead_lt {y y' : Int} (h : y < y') (h0 : 2000 ≤ y) : aheadI y + yearI y ≤ aheadI y' := by
  have := ahead_next y
  have h2 : aheadI (y + 1) ≤ aheadI y' := by unfold aheadI; omega
  omega
theorem year_span {y m d : Int} (h1 : 1 ≤ m ∧ m ≤ 12) (h2 : 1 ≤ d ∧ d ≤ longI y m) : 0 ≤ monthsI y (m - 1).toNat + d - 1 ∧ monthsI y (m - 1).toNat + d ≤ yearI y := by
  have a := in_year h1 h2
  have b := months_mono y m.toNat 12 (by omega)
  have c := months_year y
  have e := months_nonneg y (m - 1).toNat
  omega
theorem date_unique {n y m d y' m' d' : Int} (h : DateIs n y m d) (h' : DateIs n y' m' d') : y = y' ∧ m = m' ∧ d = d' := by
  obtain ⟨a1, a2, a3, a4⟩ := h
  obtain ⟨b1, b2, b3, b4⟩ := h'
  have sa := year_span a2 a3
  have sb := year_span b2 b3
  have ey : y = y' := by
    rcases Int.lt_trichotomy y y' with h | h | h
    · have := ahead_lt h (by omega); omega
    · exact h
    · have := ahead_lt h (by omega); omega
  subst ey
  have em : m = m' := by
    rcases Int.lt_trichotomy m m' with h | h | h
    · have := in_year a2 a3
      have := months_mono y m.toNat (m' - 1).toNat (by omega)
      omega
    · exact h
    · have := in_year b2 b3
      have := months_mono y m'.toNat (m - 1).toNat (by omega)
      omega
  subst em
  exact ⟨rfl, rfl, by omega⟩
theorem date_next {n y m d : Int} (h : DateIs n y m d) (hn : n < 73048) :
    (d < longI y m ∧ DateIs (n + 1) y m (d + 1)) ∨ (d = longI y m ∧ m < 12 ∧ DateIs (n + 1) y (m + 1) 1) ∨ (d = longI y m ∧ m = 12 ∧ DateIs (n + 1) (y + 1) 1 1) := by
  obtain ⟨a1, a2, a3, a4⟩ := h
  by_cases hd : d < longI y m
  · exact .inl ⟨hd, a1, a2, by omega, by omega⟩
  · right
    have e : m.toNat = (m - 1).toNat + 1 := by omega
    have h := show monthsI y ((m - 1).toNat + 1) = monthsI y (m - 1).toNat + longI y (((m - 1).toNat : Int) + 1) from rfl
    have e2 : (((m - 1).toNat : Int) + 1) = m := by omega
    rw [e2, ← e] at h
    by_cases hm : m < 12
    · left
      have lb := long_bd y (m + 1)
      refine ⟨by omega, hm, a1, by omega, by omega, ?_⟩
      rw [show (m + 1 - 1) = m by omega]
      omega
    · right
      obtain rfl : m = 12 := by omega
      have h12 := months_year y
      have hx := ahead_next y
      have ly : y ≠ 2199 := by
        intro hy
        subst hy
        have h1 : aheadI 2199 = 802803 := by decide
        have h2 : aheadI 2000 = 730119 := by decide
        have h3 : yearI 2199 = 365 := by decide
        rw [h1, h2] at a4
        have : monthsI 2199 (12 : Int).toNat = 365 := by rw [show (12 : Int).toNat = 12 from rfl, h12, h3]
        omega
      have lb := long_bd (y + 1) 1
      refine ⟨by omega, rfl, by omega, by omega, by omega, ?_⟩
      show n + 1 = aheadI (y + 1) - aheadI 2000 + 0 + 1 - 1
      have : monthsI y (12 : Int).toNat = yearI y := h12
      omega

theorem date_range {n y m d : Int} (h : DateIs n y m d) : 0 ≤ n ∧ n ≤ 73048 := by
  obtain ⟨a1, a2, a3, a4⟩ := h
  have s := year_span a2 a3
  have h1 := ahead_next y
  have h2 : aheadI 2000 ≤ aheadI y := by unfold aheadI; omega
  have h3 : aheadI (y + 1) ≤ aheadI 2200 := by unfold aheadI; omega
  have h4 : aheadI 2200 = 803168 := by decide
  have h5 : aheadI 2000 = 730119 := by decide
  omega
def yrOf (k : Int) : Int := 2000 + k / 12
def moOf (k : Int) : Int := k % 12 + 1
def startI (k : Int) : Int := aheadI (yrOf k) - aheadI 2000 + monthsI (yrOf k) (moOf k - 1).toNat
def lenI (k : Int) : Int := longI (yrOf k) (moOf k)
theorem start_first (k : Int) (h0 : 0 ≤ k) (h1 : k ≤ 2399) : DateIs (startI k) (yrOf k) (moOf k) 1 := by
  have lb := long_bd (yrOf k) (moOf k)
  unfold DateIs startI
  unfold yrOf moOf at *
  exact ⟨by omega, by omega, by omega, by omega⟩
theorem start_last (k : Int) (h0 : 0 ≤ k) (h1 : k ≤ 2399) : DateIs (startI k + lenI k - 1) (yrOf k) (moOf k) (lenI k) := by
  have lb := long_bd (yrOf k) (moOf k)
  unfold DateIs startI lenI
  unfold yrOf moOf at *
  exact ⟨by omega, by omega, by omega, by omega⟩
theorem start_next (k : Int) (h0 : 0 ≤ k) (h1 : k < 2399) : startI (k + 1) = startI k + lenI k := by
  have hd := start_last k h0 (by omega)
  have hn := start_first (k + 1) (by omega) (by omega)
  have lb := long_bd (yrOf k) (moOf k)
  unfold startI lenI
  have hk : (yrOf (k + 1) = yrOf k ∧ moOf (k + 1) = moOf k + 1 ∧ moOf k < 12) ∨ (yrOf (k + 1) = yrOf k + 1 ∧ moOf (k + 1) = 1 ∧ moOf k = 12) := by unfold yrOf moOf; omega
  have hm : 1 ≤ moOf k := by unfold moOf; omega
  generalize yrOf k = y at *
  generalize moOf k = m at *
  have h := show monthsI y ((m - 1).toNat + 1) = monthsI y (m - 1).toNat + longI y (((m - 1).toNat : Int) + 1) from rfl
  rw [show (((m - 1).toNat : Int) + 1) = m by omega] at h
  rcases hk with ⟨e1, e2, e3⟩ | ⟨e1, e2, e3⟩
  · rw [e1, e2]
    rw [show (m + 1 - 1).toNat = (m - 1).toNat + 1 by omega, h]
    omega
  · rw [e1, e2]
    have h12 := months_year y
    rw [show (m - 1).toNat + 1 = 12 by omega] at h
    have hx := ahead_next y
    show aheadI (y + 1) - aheadI 2000 + 0 = _
    omega
theorem days_any (k : Int) (w : World) (h0 : 0 ≤ k) (h1 : k ≤ 2399) :
    Calls Try.prog 24 #[.int .i64 k] w fun e w' => e = .returned (.tuple #[.int .i64 (startI k), .int .i64 (startI k + lenI k - 1), .int .i64 0]) ∧ Below w.heap.size w w' := by
  have hd := start_first k h0 h1
  obtain ⟨r0, r1⟩ := date_range hd
  obtain ⟨l0, l1⟩ := long_bd (yrOf k) (moOf k)
  have HD := Lib.hid (fun w => day_any (startI k) (yrOf k) (moOf k) 1 w hd)
  have hl := fun w => long_any (yrOf k) (moOf k) w (by unfold yrOf; omega) (by unfold yrOf; omega)
  have HE := Lib.hid (show longI (yrOf k) (moOf k) = lenI k from rfl)
  rw [HE.out] at hl l0 l1
  have HL := Lib.hid hl
  clear hl hd
  unfold yrOf moOf at HD HL
  clear HE
  generalize startI k = st at *
  generalize lenI k = ln at *
  go_enter Try.func24, Try.ntmps24
  go_wp2_with (first | (go_at_call 48; refine (HD.out _).mono ?_; rintro e w1 ⟨rfl, hb⟩; have HB := Lib.hid hb; clear hb) | (go_at_call 49; refine (HL.out _).mono ?_; rintro e w' ⟨rfl, rfl⟩))
  go_ret3
  exact ⟨rfl, HB.out⟩
theorem month_any (n y m d : Int) (w : World) (h : DateIs n y m d) :
    Calls Try.prog 25 #[.int .i64 n] w fun e w' => e = .returned (.tuple #[.int .i64 ((y - 2000) * 12 + m - 1), .int .i64 0]) ∧ Below w.heap.size w w' := by
  obtain ⟨r0, r1⟩ := date_range h
  obtain ⟨⟨y0, y1⟩, ⟨m0, m1⟩, hq⟩ := id h
  clear hq
  have H := Lib.hid h
  clear h
  go_enter Try.func25, Try.ntmps25
  go_wp2_with (fail)
  go_at_call 50
  refine (dateOf_any n _ r0 r1).mono ?_
  rintro e w1 ⟨⟨y', m', d', rfl, hd⟩, hb⟩
  obtain ⟨rfl, rfl, rfl⟩ := date_unique hd H.out
  have HB := Lib.hid hb
  clear hd hb
  go_wp2
  go_ret2
  exact ⟨rfl, blw_alloc HB.out _⟩
end Go.Proofs.Ytjlihpbnhojdgaa.Cal
