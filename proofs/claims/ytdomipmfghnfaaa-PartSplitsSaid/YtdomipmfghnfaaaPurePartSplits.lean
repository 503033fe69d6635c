/- A part of an amount and the part by the remaining basis points make the whole amount, but for one cent where the division is not exact; for every two ints, without condition. -/
import Derived.Test.YtdomipmfghnfaaaPPartSplitsx1
namespace Go.Proofs.Ytdomipmfghnfaaa.Pure
open Go.RowKit Go.Proofs.Ytdomipmfghnfaaa.PPartSplits Go.Proofs.YtdomipmfghnfaaaW.PrintWords Go.Proofs.YtdomipmfghnfaaaW.PrintLast


theorem picked_is (a n : Int) (hn : 0 < n) (ha : (Lit.int .i64 a).wf = true) : ∃ m, vendmeterkeep_picked.f a n = some m ∧ 0 ≤ m ∧ m < n := by
  have hb : -9223372036854775808 ≤ a ∧ a ≤ 9223372036854775807 := by
    have := ha; simp [Lit.wf, IntKind.min, IntKind.max, IntKind.bits, IntKind.signed] at this; omega
  unfold vendmeterkeep_picked.f
  by_cases h : a < 0
  · rw [if_pos h, if_neg (by omega)]
    have e : wrap64 (-(wrap64 (a + 1))) = -(a + 1) := by
      have e1 : wrap64 (a + 1) = a + 1 := by unfold wrap64; omega
      rw [e1]; unfold wrap64; omega
    rw [e]
    exact ⟨_, rfl, Int.tmod_nonneg _ (by omega), Int.tmod_lt_of_pos _ hn⟩
  · rw [if_neg h, if_neg (by omega)]
    exact ⟨_, rfl, Int.tmod_nonneg _ (by omega), Int.tmod_lt_of_pos _ hn⟩

/-- YOURS: ∀ (a0 : Int) (a1 : Int), (Lit.int .i64 a0).wf = true → (Lit.int .i64 a1).wf = true → ∃ k, vendmeterkeep_PartSplits.f k a0 a1 = some true
What it reaches (each with k first where it has rounds; `.mono`: more rounds tell the same; `.l0`, ..: its loops, with `.mono_l`): vendmeterkeep_picked.f, cents_within.f, cents_Part.f, vendmeterkeep_PartSplits.f -/
theorem PartSplits : vendmeterkeep_PartSplits.Pure := by
  intro a b ha hb
  obtain ⟨m, hm, hm0, hm1⟩ := picked_is a 1000000000001 (by omega) ha
  obtain ⟨n, hn, hn0, hn1⟩ := picked_is b 10001 (by omega) hb
  refine ⟨1, ?_⟩
  unfold vendmeterkeep_PartSplits.f
  rw [hm, hn]; simp only [Option.bind_some]
  have q : ∀ c : Int, 0 ≤ c → c ≤ 10000 → 0 ≤ m * c ∧ m * c ≤ 10000000000000000 := by
    intro c h0 h1
    exact ⟨Int.mul_nonneg hm0 h0, by
      have h2 : m * c ≤ 1000000000000 * c := Int.mul_le_mul_of_nonneg_right (by omega) h0
      omega⟩
  have P : ∀ c : Int, 0 ≤ c → c ≤ 10000 → cents_Part.f m c = some (m * c / 10000, 0) := by
    intro c h0 h1
    obtain ⟨q0, q1⟩ := q c h0 h1
    unfold cents_Part.f cents_within.f
    rw [if_pos hm0, if_pos h0]; simp only [Option.bind_some]
    rw [if_pos (by simp; omega), if_pos (by simp; omega)]
    have e1 : wrap64 (m * c) = m * c := by unfold wrap64; omega
    rw [e1, Int.tdiv_eq_ediv_of_nonneg q0]
    have e2 : wrap64 (m * c / 10000) = m * c / 10000 := by unfold wrap64; omega
    rw [e2]
  have e3 : wrap64 (10000 - n) = 10000 - n := by unfold wrap64; omega
  obtain ⟨q0, q1⟩ := q n (by omega) (by omega)
  obtain ⟨q2, q3⟩ := q (10000 - n) (by omega) (by omega)
  rw [e3, P n (by omega) (by omega), P (10000 - n) (by omega) (by omega)]
  simp only [Option.bind_some]
  simp only [if_true]
  rw [if_neg (by omega)]
  have hd : decide (m * (10000 - n) / 10000 < 0) = false := decide_eq_false (by omega)
  rw [hd]
  have hs : m * (10000 - n) = 10000 * m - m * n := by rw [Int.mul_sub]; omega
  rw [hs] at q2 q3 ⊢
  generalize hx : m * n = x at *
  simp only [vendmeterkeep_PartSplits.j0, hx]
  have e4 : wrap64 x = x := by unfold wrap64; omega
  have e5 : wrap64 (x / 10000 + (10000 * m - x) / 10000) = x / 10000 + (10000 * m - x) / 10000 := by unfold wrap64; omega
  have e6 : wrap64 (m - 1) = m - 1 := by unfold wrap64; omega
  rw [e4, e5, e6, Int.tmod_eq_emod_of_nonneg q0]
  rw [if_neg (by simp)]
  by_cases hz : x % 10000 = 0
  · rw [if_pos hz]
    exact congrArg some (beq_iff_eq.mpr (by omega))
  · rw [if_neg hz]
    exact congrArg some (beq_iff_eq.mpr (by omega))

end Go.Proofs.Ytdomipmfghnfaaa.Pure
