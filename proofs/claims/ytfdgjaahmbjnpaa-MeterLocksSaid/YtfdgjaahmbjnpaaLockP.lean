/- The plain law of MeterLocks: a wrong token is no good. -/
import Derived.Test.YtfdgjaahmbjnpaaTick
namespace Go.Proofs.Ytfdgjaahmbjnpaa.Met
open Go.RowKit Go.Proofs.Ytfdgjaahmbjnpaa.Base Go.Proofs.Ytfdgjaahmbjnpaa.Win Go.Proofs.Ytfdgjaahmbjnpaa.Orc Go.Proofs.Ytfdgjaahmbjnpaa.Tok
set_option linter.unusedVariables false
set_option linter.unusedSimpArgs false
set_option maxRecDepth 20000
/-- A body tells class, number and amount. -/
theorem body_inj {t u : Tk} (ht : faultI t = 0) (hu : faultI u = 0) (h : bodyI t = bodyI u) : t.cl = u.cl ∧ t.id = u.id ∧ t.am = u.am := by
  have lim : ∀ t : Tk, faultI t = 0 → (1 ≤ t.id ∧ t.id ≤ 1048575) ∧ 0 ≤ t.am ∧ t.am ≤ 2097151 := by
    intro t h
    obtain ⟨hc, hi, ⟨a0, a1⟩, _⟩ := fault_ok h
    have l0 : 0 ≤ amLo t.cl := by unfold amLo; split <;> omega
    have l1 : amHi t.cl ≤ 2097151 := by unfold amHi; split <;> (try split) <;> omega
    exact ⟨hi, by omega, by omega⟩
  obtain ⟨⟨a, b⟩, c, d⟩ := lim t ht
  obtain ⟨⟨a', b'⟩, c', d'⟩ := lim u hu
  unfold bodyI at h
  omega
/-- What nobody sold: a bad try. -/
theorem key_wrong (m : Mt) (me : Int) (t u : Tk) (hu : faultI u = 0) (ht : faultI t = 0) (hl : m.lock = 0) (hc : u.cl ≠ 3) (hw : ¬ (u.cl = t.cl ∧ u.id = t.id ∧ u.am = t.am ∧ u.tag = t.tag)) :
    keyR m [⟨me, 0, bodyI t, t.tag⟩] u = (badM m, 0, 12) := by
  have hn : ∀ r, verB [⟨me, 0, bodyI t, t.tag⟩] m.me r (bodyI u) u.tag = false := by
    intro r
    have hv : verB [⟨me, 0, bodyI t, t.tag⟩] m.me r (bodyI u) u.tag = (decide (me = m.me ∧ 0 = r ∧ bodyI t = bodyI u) && ((if decide (me = m.me ∧ 0 = r ∧ bodyI t = bodyI u) = true then t.tag else 0) == u.tag)) := by
      unfold verB had tagL same
      simp
    rw [hv]
    by_cases h : me = m.me ∧ 0 = r ∧ bodyI t = bodyI u
    · obtain ⟨e1, e2, e3⟩ := body_inj ht hu h.2.2
      rw [decide_eq_true h, if_pos rfl, Bool.true_and]
      exact beq_eq_false_iff_ne.mpr fun e => hw ⟨e1.symm, e2.symm, e3.symm, e.symm⟩
    · rw [decide_eq_false h]; rfl
  have hs : soldI m [⟨me, 0, bodyI t, t.tag⟩] (bodyI u) u.tag = 12 := by
    unfold soldI
    rw [seek_none _ _ _ _ hn, if_pos (by omega)]
  unfold keyR
  rw [if_neg (by simp [hu]), if_neg (by omega), if_neg hc, if_pos (by rw [hs]; simp), hs]
  rfl
/-- A locked keypad. -/
theorem key_locked (m : Mt) (ps : List Pr) (t : Tk) (ht : faultI t = 0) (hl : 0 < m.lock) : keyR m ps t = (m, 0, 10) := by
  unfold keyR
  rw [if_neg (by simp [ht]), if_pos hl]
end Go.Proofs.Ytfdgjaahmbjnpaa.Met
