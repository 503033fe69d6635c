/- The walk of CalNext. -/
import Derived.Test.YtjopjlnnmhokfaaDay
namespace Go.Proofs.Ytjopjlnnmhokfaa.CalNext
open Go.RowKit Go.Proofs.Ytjopjlnnmhokfaa.Base Go.Proofs.Ytjopjlnnmhokfaa.Cal
set_option linter.unusedVariables false
set_option linter.unusedSimpArgs false
set_option maxRecDepth 20000

theorem months_mono (y : Int) (j : Nat) : ∀ k, j ≤ k → monthsI y j ≤ monthsI y k
  | 0, h => by
    obtain rfl : j = 0 := by omega
    exact Int.le_refl _
  | k + 1, h => by
    by_cases e : j = k + 1
    · subst e; exact Int.le_refl _
    · have := months_mono y j k (by omega)
      have := long_bd y ((k : Int) + 1)
      simp only [monthsI]
      omega
theorem in_year {y m d : Int} (h1 : 1 ≤ m ∧ m ≤ 12) (h2 : 1 ≤ d ∧ d ≤ longI y m) : monthsI y (m - 1).toNat + d ≤ monthsI y m.toNat := by
  have e : m.toNat = (m - 1).toNat + 1 := by omega
  have h := show monthsI y ((m - 1).toNat + 1) = monthsI y (m - 1).toNat + longI y (((m - 1).toNat : Int) + 1) from rfl
  have e2 : (((m - 1).toNat : Int) + 1) = m := by omega
  rw [e2] at h
  rw [e, h]
  omega
theorem ahead_lt {y y' : Int} (h : y < y') (h0 : 2000 ≤ y) : aheadI y + yearI y ≤ aheadI y' := by
  have := ahead_next y
  have h2 : aheadI (y + 1) ≤ aheadI y' := by unfold aheadI; omega
  omega
theorem year_span {y m d : Int} (h1 : 1 ≤ m ∧ m ≤ 12) (h2 : 1 ≤ d ∧ d ≤ longI y m) : 0 ≤ monthsI y (m - 1).toNat + d - 1 ∧ monthsI y (m - 1).toNat + d ≤ yearI y := by
  have a := in_year h1 h2
  have b := months_mono y m.toNat 12 (by omega)
  have c := months_year y
  have e := months_nonneg y (m - 1).toNat
  omega
theorem date_unique {n y m d y' m' d' : Int} (h : DateIs n y m d) (h' : DateIs n y' m' d') : y = y' ∧ m = m' ∧ d = d' := by
  obtain ⟨a1, a2, a3, a4⟩ := h
  obtain ⟨b1, b2, b3, b4⟩ := h'
  have sa := year_span a2 a3
  have sb := year_span b2 b3
  have ey : y = y' := by
    rcases Int.lt_trichotomy y y' with h | h | h
    · have := ahead_lt h (by omega); omega
    · exact h
    · have := ahead_lt h (by omega); omega
  subst ey
  have em : m = m' := by
    rcases Int.lt_trichotomy m m' with h | h | h
    · have := in_year a2 a3
      have := months_mono y m.toNat (m' - 1).toNat (by omega)
      omega
    · exact h
    · have := in_year b2 b3
      have := months_mono y m'.toNat (m - 1).toNat (by omega)
      omega
  subst em
  exact ⟨rfl, rfl, by omega⟩
theorem date_next {n y m d : Int} (h : DateIs n y m d) (hn : n < 73048) :
    (d < longI y m ∧ DateIs (n + 1) y m (d + 1)) ∨ (d = longI y m ∧ m < 12 ∧ DateIs (n + 1) y (m + 1) 1) ∨ (d = longI y m ∧ m = 12 ∧ DateIs (n + 1) (y + 1) 1 1) := by
  obtain ⟨a1, a2, a3, a4⟩ := h
  by_cases hd : d < longI y m
  · exact .inl ⟨hd, a1, a2, by omega, by omega⟩
  · right
    have e : m.toNat = (m - 1).toNat + 1 := by omega
    have h := show monthsI y ((m - 1).toNat + 1) = monthsI y (m - 1).toNat + longI y (((m - 1).toNat : Int) + 1) from rfl
    have e2 : (((m - 1).toNat : Int) + 1) = m := by omega
    rw [e2, ← e] at h
    by_cases hm : m < 12
    · left
      have lb := long_bd y (m + 1)
      refine ⟨by omega, hm, a1, by omega, by omega, ?_⟩
      rw [show (m + 1 - 1) = m by omega]
      omega
    · right
      obtain rfl : m = 12 := by omega
      have h12 := months_year y
      have hx := ahead_next y
      have ly : y ≠ 2199 := by
        intro hy
        subst hy
        have h1 : aheadI 2199 = 802803 := by decide
        have h2 : aheadI 2000 = 730119 := by decide
        have h3 : yearI 2199 = 365 := by decide
        rw [h1, h2] at a4
        have : monthsI 2199 (12 : Int).toNat = 365 := by rw [show (12 : Int).toNat = 12 from rfl, h12, h3]
        omega
      have lb := long_bd (y + 1) 1
      refine ⟨by omega, rfl, by omega, by omega, by omega, ?_⟩
      show n + 1 = aheadI (y + 1) - aheadI 2000 + 0 + 1 - 1
      have : monthsI y (12 : Int).toNat = yearI y := h12
      omega
def Next (y m d y' m' d' : Int) : Prop := (y' = y ∧ m' = m ∧ d' = d + 1 ∧ d' ≠ 1) ∨ (28 ≤ d ∧ d ≤ 31 ∧ m ≠ 12 ∧ y' = y ∧ m' = m + 1 ∧ d' = 1) ∨ (28 ≤ d ∧ d ≤ 31 ∧ m = 12 ∧ y' = y + 1 ∧ m' = 1 ∧ d' = 1)
theorem next_of {n y m d y' m' d' : Int} (h : DateIs n y m d) (h' : DateIs (n + 1) y' m' d') (hn : n < 73048) : Next y m d y' m' d' := by
  have lb := long_bd y m
  have hd1 := h.2.2.1
  rcases date_next h hn with ⟨h1, h2⟩ | ⟨h1, h2, h3⟩ | ⟨h1, h2, h3⟩
  · obtain ⟨rfl, rfl, rfl⟩ := date_unique h' h2
    exact .inl ⟨rfl, rfl, rfl, by omega⟩
  · obtain ⟨rfl, rfl, rfl⟩ := date_unique h' h3
    exact .inr (.inl ⟨by omega, by omega, by omega, rfl, rfl, rfl⟩)
  · obtain ⟨rfl, rfl, rfl⟩ := date_unique h' h3
    exact .inr (.inr ⟨by omega, by omega, by omega, rfl, rfl, rfl⟩)
theorem walk (x : Int) (w : World) (wx : (Lit.int .i64 x).wf = true) :
    Calls Try.prog 3 #[.int .i64 x] w fun e w' => e = .returned (.bool true) ∧ Below w.heap.size w w' := by
  obtain ⟨x0, x1⟩ := i64_bound wx
  clear wx
  obtain ⟨p0, p1⟩ := pk_bound x 73048 (by omega)
  have hp := fun w => picked_any x 73048 w x0 x1 (by omega)
  generalize pk x 73048 = n at *
  have HP := Lib.hid hp
  clear hp
  go_enter Try.func3, Try.ntmps3
  go_wp2_with (first | (go_at_call 15; refine (HP.out _).mono ?_; rintro e w' ⟨rfl, rfl⟩) | fail)
  go_at_call 16
  refine (dateOf_any n _ p0 (by omega)).mono ?_
  rintro e w1 ⟨⟨y, m, d, rfl, hd⟩, hb⟩
  obtain ⟨⟨y0, y1⟩, ⟨m0, m1⟩, ⟨d0, d1'⟩, hq⟩ := id hd
  clear hq
  have d1 : d ≤ 31 := by have := long_bd y m; omega
  clear d1'
  have HD := Lib.hid hd
  obtain ⟨bc1, bf1⟩ := bcell hb
  have hz1 := hb.size
  try simp at hz1
  have HB := Lib.hid hb
  clear hd hb
  go_wp2_with (fail)
  go_at_call 16
  refine (dateOf_any (n + 1) _ (by omega) (by omega)).mono ?_
  rintro e w2 ⟨⟨y', m', d', rfl, hd'⟩, hb⟩
  have hnx := next_of HD.out hd' p1
  obtain ⟨bc2, bf2⟩ := bcell hb
  have hz2 := hb.size
  try simp at hz2
  have HB2 := Lib.hid hb
  clear hd' hb
  have lt2 : w1.heap.size < w2.heap.size := by omega
  have B2 := below_then' (blw_alloc HB.out (.cells #[.int .i64 y, .int .i64 m, .int .i64 d] 24)) HB2.out
  have HB3 := Lib.hid B2
  clear B2
  rcases hnx with ⟨rfl, rfl, rfl, hne⟩ | ⟨h28, h31, hne, rfl, rfl, rfl⟩ | ⟨h28, h31, rfl, rfl, rfl, rfl⟩
  · have e1 : (d + 1 != 1) = true := bne_iff_ne.mpr hne
    have e2 : ((d + 1) == 1) = false := beq_eq_false_iff_ne.mpr hne
    have HN := Lib.hid hne
    clear hne
    go_wp2
    go_ret
    exact ⟨rfl, by repeat (first | with_reducible exact HB3.out | refine blw_alloc ?_ _)⟩
  · have e2 : (m == 12) = false := beq_eq_false_iff_ne.mpr hne
    have HN := Lib.hid hne
    clear hne
    go_wp2
    go_ret
    exact ⟨rfl, by repeat (first | with_reducible exact HB3.out | refine blw_alloc ?_ _)⟩
  · go_wp2
    go_ret
    exact ⟨rfl, by repeat (first | with_reducible exact HB3.out | refine blw_alloc ?_ _)⟩
end Go.Proofs.Ytjopjlnnmhokfaa.CalNext
