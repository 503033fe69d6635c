/- Weekdays go round: of each day from 0 to MaxDay - 7 the next day's weekday is the next one modulo 7, and that of the day a week later is the same; for every int, without condition. -/
import Derived.Test.YtdomipmfghnfaaaPCalWeeksx1
namespace Go.Proofs.Ytdomipmfghnfaaa.Pure
open Go.RowKit Go.Proofs.Ytdomipmfghnfaaa.PCalWeeks Go.Proofs.YtdomipmfghnfaaaW.PrintWords Go.Proofs.YtdomipmfghnfaaaW.PrintLast


theorem picked_is (a n : Int) (hn : 0 < n) (ha : (Lit.int .i64 a).wf = true) : ∃ m, vendmeterkeep_picked.f a n = some m ∧ 0 ≤ m ∧ m < n := by
  have hb : -9223372036854775808 ≤ a ∧ a ≤ 9223372036854775807 := by
    have := ha; simp [Lit.wf, IntKind.min, IntKind.max, IntKind.bits, IntKind.signed] at this; omega
  unfold vendmeterkeep_picked.f
  by_cases h : a < 0
  · rw [if_pos h, if_neg (by omega)]
    have e : wrap64 (-(wrap64 (a + 1))) = -(a + 1) := by
      have e1 : wrap64 (a + 1) = a + 1 := by unfold wrap64; omega
      rw [e1]; unfold wrap64; omega
    rw [e]
    exact ⟨_, rfl, Int.tmod_nonneg _ (by omega), Int.tmod_lt_of_pos _ hn⟩
  · rw [if_neg h, if_neg (by omega)]
    exact ⟨_, rfl, Int.tmod_nonneg _ (by omega), Int.tmod_lt_of_pos _ hn⟩

/-- YOURS: ∀ (a0 : Int), (Lit.int .i64 a0).wf = true → vendmeterkeep_CalWeeks.f a0 = some true
What it reaches (each with k first where it has rounds; `.mono`: more rounds tell the same; `.l0`, ..: its loops, with `.mono_l`): vendmeterkeep_picked.f, calendar_Weekday.f, vendmeterkeep_CalWeeks.f -/
theorem CalWeeks : vendmeterkeep_CalWeeks.Pure := by
  intro a ha
  obtain ⟨m, hm, h0, h1⟩ := picked_is a 73042 (by omega) ha
  unfold vendmeterkeep_CalWeeks.f
  rw [hm]; simp only [Option.bind_some]
  have e1 : wrap64 (m + 1) = m + 1 := by unfold wrap64; omega
  have e7 : wrap64 (m + 7) = m + 7 := by unfold wrap64; omega
  have w : ∀ d : Int, 0 ≤ d → d ≤ 73048 → calendar_Weekday.f d = some ((d + 5) % 7, 0) := by
    intro d hd hd2
    unfold calendar_Weekday.f
    rw [if_neg (by omega), if_neg (by omega)]
    have : wrap64 (d + 5) = d + 5 := by unfold wrap64; omega
    rw [this, Int.tmod_eq_emod_of_nonneg (by omega)]
  rw [e1, e7, w m (by omega) (by omega), w (m + 1) (by omega) (by omega), w (m + 7) (by omega) (by omega)]
  simp only [Option.bind_some]
  have e8 : wrap64 ((m + 5) % 7 + 1) = (m + 5) % 7 + 1 := by unfold wrap64; omega
  rw [e8, Int.tmod_eq_emod_of_nonneg (by omega)]
  simp only [if_true]
  rw [if_pos (by omega), if_pos (by omega), if_pos (by omega)]
  exact congrArg some (decide_eq_true (by omega))

end Go.Proofs.Ytdomipmfghnfaaa.Pure
