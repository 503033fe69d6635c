/- The contract of book.check. -/
import Derived.Test.YtjlihpbnhojdgaaEv2
namespace Go.Proofs.Ytjlihpbnhojdgaa.Ev
open Go.RowKit Go.Proofs.Ytjlihpbnhojdgaa.Base Go.Proofs.Ytjlihpbnhojdgaa.Rcv
set_option linter.unusedVariables false
set_option linter.unusedSimpArgs false
set_option maxRecDepth 20000
theorem want_any (b : Bool) (c : Int) (w : World) : Calls Try.prog 62 #[.bool b, .int .i64 c] w fun e w' => ((b = true ∧ e = .returned (.tuple #[])) ∨ (b = false ∧ e = .panicked [{ v := thrown c, recovered := false }])) ∧ w = w' := by
  cases b
  · exact (want_no c w).mono fun e w' ⟨h1, h2⟩ => ⟨.inr ⟨rfl, h1⟩, h2⟩
  · exact (want_yes c w).mono fun e w' ⟨h1, h2⟩ => ⟨.inl ⟨rfl, h1⟩, h2⟩
theorem within_two (n lo hi : Int) (w : World) : Calls Try.prog 72 #[.int .i64 n, .int .i64 lo, .int .i64 hi] w fun e w' => (((lo ≤ n ∧ n ≤ hi) ∧ e = .returned (.bool true)) ∨ (¬(lo ≤ n ∧ n ≤ hi) ∧ e = .returned (.bool false))) ∧ w = w' := by
  refine (within_any n lo hi w).mono fun e w' ⟨h1, h2⟩ => ⟨?_, h2⟩
  by_cases h : lo ≤ n ∧ n ≤ hi
  · rw [decide_eq_true h] at h1; exact .inl ⟨h, h1⟩
  · rw [decide_eq_false h] at h1; exact .inr ⟨h, h1⟩
theorem mx4 {P : Program} (a b c d : Int) : ∃ m : Int, (∀ ts t w, (Builtin.max_ ts t #[.int .i64 a, .int .i64 b, .int .i64 c, .int .i64 d]).run P w = .ok (.int .i64 m) w) ∧ a ≤ m ∧ b ≤ m ∧ c ≤ m ∧ d ≤ m ∧ (m = a ∨ m = b ∨ m = c ∨ m = d) := by
  refine ⟨if (if (if a < b then b else a) < c then c else (if a < b then b else a)) < d then d else (if (if a < b then b else a) < c then c else (if a < b then b else a)), fun ts t w => ?_, ?_⟩
  · simp [Builtin.max_, Builtin.max2]
  · obtain ⟨x, hx, h1, h2, h3⟩ : ∃ x, x = (if a < b then b else a) ∧ a ≤ x ∧ b ≤ x ∧ (x = a ∨ x = b) := ⟨_, rfl, by split <;> omega⟩
    rw [← hx]
    obtain ⟨y, hy, h4, h5, h6⟩ : ∃ y, y = (if x < c then c else x) ∧ x ≤ y ∧ c ≤ y ∧ (y = x ∨ y = c) := ⟨_, rfl, by split <;> omega⟩
    rw [← hy]
    split <;> omega
set_option maxHeartbeats 8000000 in
theorem check_k1 (v : Ev) (hk : v.k = 1) (w : World) : Calls Try.prog 59 #[.agg v.l.toArray] w fun e w' => ((okE v ∧ e = .returned (.tuple #[])) ∨ (¬ okE v ∧ e = .panicked [{ v := thrown 5, recovered := false }])) ∧ Below w.heap.size w w' := by
  obtain ⟨k, me, mo, id, te, de, fe, pr, ch, un, tag, ow, bp⟩ := v
  unfold Ev.l
  simp only at hk ⊢
  go_enter Try.func59, Try.ntmps59
  go_wp2_with (first
    | (go_at_call 72; refine (within_two _ _ _ _).mono ?_; rintro e w1 ⟨⟨h1, rfl⟩ | ⟨h1, rfl⟩, rfl⟩)
    | (go_at_call 62; with_reducible refine (want_yes _ _).mono ?_; rintro e w1 ⟨rfl, rfl⟩)
    | (go_at_call 62; with_reducible refine (want_no _ _).mono ?_; rintro e w1 ⟨rfl, rfl⟩)
    | (go_at_call 62; refine (want_any _ _ _).mono ?_; rintro e w1 ⟨⟨h1, rfl⟩ | ⟨h1, rfl⟩, rfl⟩))
  all_goals first
    | (refine ⟨rfl, .inr ⟨?_, rfl⟩, (by repeat (first | with_reducible exact Below.refl _ _ | with_reducible refine Base.blw_alloc ?_ _ | with_reducible refine Below.drew ?_))⟩; unfold okE ids noBill; simp only; omega)
    | (go_end0; refine ⟨.inl ⟨?_, rfl⟩, (by repeat (first | with_reducible exact Below.refl _ _ | with_reducible refine Base.blw_alloc ?_ _ | with_reducible refine Below.drew ?_))⟩; unfold okE ids noBill; simp only; omega)
set_option maxHeartbeats 8000000 in
theorem check_k2 (v : Ev) (hk : v.k = 2) (w : World) : Calls Try.prog 59 #[.agg v.l.toArray] w fun e w' => ((okE v ∧ e = .returned (.tuple #[])) ∨ (¬ okE v ∧ e = .panicked [{ v := thrown 5, recovered := false }])) ∧ Below w.heap.size w w' := by
  obtain ⟨k, me, mo, id, te, de, fe, pr, ch, un, tag, ow, bp⟩ := v
  unfold Ev.l
  simp only at hk ⊢
  obtain ⟨m, hmx, hm1, hm2, hm3, hm4, hmo⟩ := mx4 (P := Try.prog) de fe pr ch
  have HMO := Lib.hid hmo
  clear hmo
  go_enter Try.func59, Try.ntmps59
  go_wp2_with (first
    | (go_at_call 72; refine (within_two _ _ _ _).mono ?_; rintro e w1 ⟨⟨h1, rfl⟩ | ⟨h1, rfl⟩, rfl⟩)
    | (go_at_call 62; with_reducible refine (want_yes _ _).mono ?_; rintro e w1 ⟨rfl, rfl⟩)
    | (go_at_call 62; with_reducible refine (want_no _ _).mono ?_; rintro e w1 ⟨rfl, rfl⟩)
    | (go_at_call 62; refine (want_any _ _ _).mono ?_; rintro e w1 ⟨⟨h1, rfl⟩ | ⟨h1, rfl⟩, rfl⟩))
  all_goals (try simp only [beq_iff_eq, beq_eq_false_iff_ne, ne_eq] at *)
  all_goals have hmo := HMO.out
  all_goals first
    | (refine ⟨rfl, .inr ⟨?_, rfl⟩, (by repeat (first | with_reducible exact Below.refl _ _ | with_reducible refine Base.blw_alloc ?_ _ | with_reducible refine Below.drew ?_))⟩; unfold okE ids noBill; simp only; omega)
    | (go_end0; refine ⟨.inl ⟨?_, rfl⟩, (by repeat (first | with_reducible exact Below.refl _ _ | with_reducible refine Base.blw_alloc ?_ _ | with_reducible refine Below.drew ?_))⟩; unfold okE ids noBill; simp only; omega)
set_option maxHeartbeats 8000000 in
theorem check_k3 (v : Ev) (hk : v.k = 3) (w : World) : Calls Try.prog 59 #[.agg v.l.toArray] w fun e w' => ((okE v ∧ e = .returned (.tuple #[])) ∨ (¬ okE v ∧ e = .panicked [{ v := thrown 5, recovered := false }])) ∧ Below w.heap.size w w' := by
  obtain ⟨k, me, mo, id, te, de, fe, pr, ch, un, tag, ow, bp⟩ := v
  unfold Ev.l
  simp only at hk ⊢
  go_enter Try.func59, Try.ntmps59
  go_wp2_with (first
    | (go_at_call 72; refine (within_two _ _ _ _).mono ?_; rintro e w1 ⟨⟨h1, rfl⟩ | ⟨h1, rfl⟩, rfl⟩)
    | (go_at_call 62; with_reducible refine (want_yes _ _).mono ?_; rintro e w1 ⟨rfl, rfl⟩)
    | (go_at_call 62; with_reducible refine (want_no _ _).mono ?_; rintro e w1 ⟨rfl, rfl⟩)
    | (go_at_call 62; refine (want_any _ _ _).mono ?_; rintro e w1 ⟨⟨h1, rfl⟩ | ⟨h1, rfl⟩, rfl⟩))
  all_goals first
    | (refine ⟨rfl, .inr ⟨?_, rfl⟩, (by repeat (first | with_reducible exact Below.refl _ _ | with_reducible refine Base.blw_alloc ?_ _ | with_reducible refine Below.drew ?_))⟩; unfold okE ids noBill; simp only; omega)
    | (go_end0; refine ⟨.inl ⟨?_, rfl⟩, (by repeat (first | with_reducible exact Below.refl _ _ | with_reducible refine Base.blw_alloc ?_ _ | with_reducible refine Below.drew ?_))⟩; unfold okE ids noBill; simp only; omega)
set_option maxHeartbeats 8000000 in
theorem check_k4 (v : Ev) (hk : v.k = 4) (w : World) : Calls Try.prog 59 #[.agg v.l.toArray] w fun e w' => ((okE v ∧ e = .returned (.tuple #[])) ∨ (¬ okE v ∧ e = .panicked [{ v := thrown 5, recovered := false }])) ∧ Below w.heap.size w w' := by
  obtain ⟨k, me, mo, id, te, de, fe, pr, ch, un, tag, ow, bp⟩ := v
  unfold Ev.l
  simp only at hk ⊢
  go_enter Try.func59, Try.ntmps59
  go_wp2_with (first
    | (go_at_call 72; refine (within_two _ _ _ _).mono ?_; rintro e w1 ⟨⟨h1, rfl⟩ | ⟨h1, rfl⟩, rfl⟩)
    | (go_at_call 62; with_reducible refine (want_yes _ _).mono ?_; rintro e w1 ⟨rfl, rfl⟩)
    | (go_at_call 62; with_reducible refine (want_no _ _).mono ?_; rintro e w1 ⟨rfl, rfl⟩)
    | (go_at_call 62; refine (want_any _ _ _).mono ?_; rintro e w1 ⟨⟨h1, rfl⟩ | ⟨h1, rfl⟩, rfl⟩))
  all_goals first
    | (refine ⟨rfl, .inr ⟨?_, rfl⟩, (by repeat (first | with_reducible exact Below.refl _ _ | with_reducible refine Base.blw_alloc ?_ _ | with_reducible refine Below.drew ?_))⟩; unfold okE ids noBill; simp only; omega)
    | (go_end0; refine ⟨.inl ⟨?_, rfl⟩, (by repeat (first | with_reducible exact Below.refl _ _ | with_reducible refine Base.blw_alloc ?_ _ | with_reducible refine Below.drew ?_))⟩; unfold okE ids noBill; simp only; omega)
set_option maxHeartbeats 8000000 in
theorem check_k5 (v : Ev) (hk : v.k = 5) (w : World) : Calls Try.prog 59 #[.agg v.l.toArray] w fun e w' => ((okE v ∧ e = .returned (.tuple #[])) ∨ (¬ okE v ∧ e = .panicked [{ v := thrown 5, recovered := false }])) ∧ Below w.heap.size w w' := by
  obtain ⟨k, me, mo, id, te, de, fe, pr, ch, un, tag, ow, bp⟩ := v
  unfold Ev.l
  simp only at hk ⊢
  go_enter Try.func59, Try.ntmps59
  go_wp2_with (first
    | (go_at_call 72; refine (within_two _ _ _ _).mono ?_; rintro e w1 ⟨⟨h1, rfl⟩ | ⟨h1, rfl⟩, rfl⟩)
    | (go_at_call 62; with_reducible refine (want_yes _ _).mono ?_; rintro e w1 ⟨rfl, rfl⟩)
    | (go_at_call 62; with_reducible refine (want_no _ _).mono ?_; rintro e w1 ⟨rfl, rfl⟩)
    | (go_at_call 62; refine (want_any _ _ _).mono ?_; rintro e w1 ⟨⟨h1, rfl⟩ | ⟨h1, rfl⟩, rfl⟩))
  all_goals first
    | (refine ⟨rfl, .inr ⟨?_, rfl⟩, (by repeat (first | with_reducible exact Below.refl _ _ | with_reducible refine Base.blw_alloc ?_ _ | with_reducible refine Below.drew ?_))⟩; unfold okE ids noBill; simp only; omega)
    | (go_end0; refine ⟨.inl ⟨?_, rfl⟩, (by repeat (first | with_reducible exact Below.refl _ _ | with_reducible refine Base.blw_alloc ?_ _ | with_reducible refine Below.drew ?_))⟩; unfold okE ids noBill; simp only; omega)
set_option maxHeartbeats 8000000 in
theorem check_kx (v : Ev) (hk : v.k ≠ 1 ∧ v.k ≠ 2 ∧ v.k ≠ 3 ∧ v.k ≠ 4 ∧ v.k ≠ 5) (w : World) : Calls Try.prog 59 #[.agg v.l.toArray] w fun e w' => ((okE v ∧ e = .returned (.tuple #[])) ∨ (¬ okE v ∧ e = .panicked [{ v := thrown 5, recovered := false }])) ∧ Below w.heap.size w w' := by
  obtain ⟨k, me, mo, id, te, de, fe, pr, ch, un, tag, ow, bp⟩ := v
  unfold Ev.l
  simp only at hk ⊢
  have b1 : (k == 1) = false := by simp [hk]
  have b2 : (k == 2) = false := by simp [hk]
  have b3 : (k == 3) = false := by simp [hk]
  have b4 : (k == 4) = false := by simp [hk]
  have b5 : (k == 5) = false := by simp [hk]
  go_enter Try.func59, Try.ntmps59
  go_wp2_with (first
    | (go_at_call 72; refine (within_two _ _ _ _).mono ?_; rintro e w1 ⟨⟨h1, rfl⟩ | ⟨h1, rfl⟩, rfl⟩)
    | (go_at_call 62; with_reducible refine (want_yes _ _).mono ?_; rintro e w1 ⟨rfl, rfl⟩)
    | (go_at_call 62; with_reducible refine (want_no _ _).mono ?_; rintro e w1 ⟨rfl, rfl⟩)
    | (go_at_call 62; refine (want_any _ _ _).mono ?_; rintro e w1 ⟨⟨h1, rfl⟩ | ⟨h1, rfl⟩, rfl⟩))
  all_goals first
    | (refine ⟨rfl, .inr ⟨?_, rfl⟩, (by repeat (first | with_reducible exact Below.refl _ _ | with_reducible refine Base.blw_alloc ?_ _ | with_reducible refine Below.drew ?_))⟩; unfold okE ids noBill; simp only; omega)
    | (go_end0; refine ⟨.inl ⟨?_, rfl⟩, (by repeat (first | with_reducible exact Below.refl _ _ | with_reducible refine Base.blw_alloc ?_ _ | with_reducible refine Below.drew ?_))⟩; unfold okE ids noBill; simp only; omega)
theorem check_any (v : Ev) (w : World) : Calls Try.prog 59 #[.agg v.l.toArray] w fun e w' => ((okE v ∧ e = .returned (.tuple #[])) ∨ (¬ okE v ∧ e = .panicked [{ v := thrown 5, recovered := false }])) ∧ Below w.heap.size w w' := by
  by_cases h1 : v.k = 1
  · exact check_k1 v h1 w
  by_cases h2 : v.k = 2
  · exact check_k2 v h2 w
  by_cases h3 : v.k = 3
  · exact check_k3 v h3 w
  by_cases h4 : v.k = 4
  · exact check_k4 v h4 w
  by_cases h5 : v.k = 5
  · exact check_k5 v h5 w
  exact check_kx v ⟨h1, h2, h3, h4, h5⟩ w
end Go.Proofs.Ytjlihpbnhojdgaa.Ev
