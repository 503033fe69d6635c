/- Contracts of package book's refusals: want, caught, the deferred closures. -/
import Derived.Test.YtjlihpbnhojdgaaEvP
import Derived.Test.YtjlihpbnhojdgaaCs
import Derived.Tactics2
import Derived.Laws.Pointers
import Derived.ChangeKeysEq
namespace Go.Proofs.Ytjlihpbnhojdgaa.Ev
open Go.RowKit Go.Proofs.Ytjlihpbnhojdgaa.Base Go.Proofs.Ytjlihpbnhojdgaa.Rcv
set_option linter.unusedVariables false
set_option linter.unusedSimpArgs false
set_option maxRecDepth 20000
/-- What is thrown. -/
def thrown (c : Int) : Value := .iface 133 (.agg #[.int .i64 c])
theorem want_yes (c : Int) (w : World) : Calls Try.prog 62 #[.bool true, .int .i64 c] w fun e w' => e = .returned (.tuple #[]) ∧ w = w' := by
  go_enter Try.func62, Try.ntmps62
  go_wp2
  go_end0
  exact ⟨rfl, rfl⟩
theorem want_no (c : Int) (w : World) : Calls Try.prog 62 #[.bool false, .int .i64 c] w fun e w' => e = .panicked [{ v := thrown c, recovered := false }] ∧ w = w' := by
  go_enter Try.func62, Try.ntmps62
  go_wp2
  exact ⟨rfl, rfl, rfl⟩
theorem within_yes (n lo hi : Int) (h : lo ≤ n ∧ n ≤ hi) (w : World) : Calls Try.prog 72 #[.int .i64 n, .int .i64 lo, .int .i64 hi] w fun e w' => e = .returned (.bool true) ∧ w = w' := by
  obtain ⟨h0, h1⟩ := h
  go_enter Try.func72, Try.ntmps72
  go_wp2
  go_ret
  exact ⟨rfl, rfl⟩
theorem within_any (n lo hi : Int) (w : World) : Calls Try.prog 72 #[.int .i64 n, .int .i64 lo, .int .i64 hi] w fun e w' => e = .returned (.bool (decide (lo ≤ n ∧ n ≤ hi))) ∧ w = w' := by
  by_cases h : lo ≤ n ∧ n ≤ hi
  · rw [decide_eq_true h]
    exact within_yes n lo hi h w
  · rw [decide_eq_false h]
    by_cases h1 : lo ≤ n
    · have h2 : ¬ n ≤ hi := fun x => h ⟨h1, x⟩
      clear h
      go_enter Try.func72, Try.ntmps72
      go_wp2
      go_ret
      exact ⟨rfl, rfl⟩
    · clear h
      go_enter Try.func72, Try.ntmps72
      go_wp2
      go_ret
      exact ⟨rfl, rfl⟩
theorem assert_err (v : Value) (w : World) : (Instr.typeAssert (.iface 133 v) 20 131 false).run Try.prog w = .ok (.iface 133 v) w := by
  obtain ⟨ms, i, hu, hi, hm⟩ : ∃ ms i, (Try.prog).underlying 131 = some (.interface ms) ∧ (Try.prog).info? 133 = some i ∧ Instr.missingMethod ms i.methods = none := ⟨_, _, rfl, rfl, by decide +kernel⟩
  unfold Instr.typeAssert
  simp [Sem.run_bind, run_underlying hu, run_typeInfo w hi, hm]
theorem assert_ref (v : Value) (w : World) : (Instr.typeAssert (.iface 133 v) 131 133 true).run Try.prog w = .ok (.tuple #[v, .bool true]) w := by
  obtain ⟨d, hu⟩ : ∃ d, (Try.prog).underlying 133 = some (.struct d) := ⟨_, rfl⟩
  unfold Instr.typeAssert
  simp [Sem.run_bind, run_underlying hu]
theorem caught_nil (e0 : Int) (w : World) : Calls Try.prog 58 #[.nilIface, .int .i64 e0] w fun e w' => e = .returned (.int .i64 e0) ∧ w = w' := by
  go_enter Try.func58, Try.ntmps58
  go_wp2
  go_ret
  exact ⟨rfl, rfl⟩
theorem caught_yes (c e0 : Int) (w : World) : Calls Try.prog 58 #[thrown c, .int .i64 e0] w fun e w' => e = .returned (.int .i64 c) ∧ Below w.heap.size w w' := by
  unfold thrown
  have h1 := assert_err (.agg #[.int .i64 c])
  have h2 := assert_ref (.agg #[.int .i64 c])
  go_enter Try.func58, Try.ntmps58
  go_wp2
  go_ret
  exact ⟨rfl, blw_alloc (Below.refl _ _) _⟩
/-- Encode's deferred closure: nothing was thrown. -/
theorem enc_idle (p : Nat) (e0 : Int) (w : World) (hc : w.cell? ⟨p, 0, none⟩ = some (.int .i64 e0)) (hz : w.frozen? ⟨p, 0, none⟩ = false) :
    CallsD Try.prog 57 #[.pointer (some ⟨p, 0, none⟩)] .returning w fun e u' w' => e = .returned (.tuple #[]) ∧ u' = .returning ∧ w' = (w.setCell ⟨p, 0, none⟩ (.int .i64 e0)).drew := by
  have mixed : Try.prog.follows .mixedOrders = true := by kernel_rfl
  refine callsD_of_wpS Try.func57 rfl fun c₀ cs hu => ?_
  refine wpS_region_draw4 mixed (by decide +kernel) (by decide +kernel) (by decide +kernel) (by decide +kernel) (by decide +kernel) (by decide +kernel) ?_ ?_
  all_goals
    simp [wpOpsS, go_sem, recoverD, hu, Try.ntmps57, Exit.thenS, hc, hz]
    refine (caught_nil _ _).mono ?_
    rintro e w1 ⟨rfl, rfl⟩
    simp [wpOpsS, go_sem, recoverD, hu, Try.ntmps57, Exit.thenS, hc, hz]
    exact ⟨rfl, .returning, (by cases c₀; simp_all), _, (by simp [results, Try.results57]), rfl, rfl, rfl⟩
set_option maxHeartbeats 2000000 in
/-- Encode's deferred closure: a refusal was thrown. -/
theorem enc_catch (p : Nat) (e0 c : Int) (w : World) (hc : w.cell? ⟨p, 0, none⟩ = some (.int .i64 e0)) (hz : w.frozen? ⟨p, 0, none⟩ = false) :
    CallsD Try.prog 57 #[.pointer (some ⟨p, 0, none⟩)] (.panicking [{ v := thrown c, recovered := false }]) w fun e u' w' => e = .returned (.tuple #[]) ∧ u' = .panicking [{ v := thrown c, recovered := true }] ∧ ∃ w1, Below w.heap.size w w1 ∧ w' = w1.setCell ⟨p, 0, none⟩ (.int .i64 c) := by
  have mixed : Try.prog.follows .mixedOrders = true := by kernel_rfl
  have hpl : p < w.heap.size := World.block_lt_of_cell? w _ hc
  unfold thrown
  refine callsD_of_wpS Try.func57 rfl fun c₀ cs hu => ?_
  refine wpS_region_draw4 mixed (by decide +kernel) (by decide +kernel) (by decide +kernel) (by decide +kernel) (by decide +kernel) (by decide +kernel) ?_ ?_
  all_goals
    simp [wpOpsS, go_sem, recoverD, hu, Try.ntmps57, Exit.thenS, hc, hz]
    refine (caught_yes c e0 _).mono ?_
    rintro e w1 ⟨rfl, hb⟩
    have hc1 : w1.cell? ⟨p, 0, none⟩ = some (.int .i64 e0) := (hb.cell (p := ⟨p, 0, none⟩) hpl).trans hc
    have hz1 : w1.frozen? ⟨p, 0, none⟩ = false := (hb.frozen (p := ⟨p, 0, none⟩) hpl).trans hz
    have HB : Hid (Below w.heap.size w w1) := Lib.hid ((Below.refl _ _).drew.trans hb)
    clear hb
    simp [wpOpsS, go_sem, recoverD, hu, Try.ntmps57, Exit.thenS, hc, hz, hc1, hz1]
    exact ⟨rfl, .panicking [{ v := thrown c, recovered := true }], (by cases c₀; simp_all [thrown]), _, (by simp [results, Try.results57]), rfl, rfl, w1, HB.out, rfl⟩
/-- Decode's deferred closure: nothing was thrown. -/
theorem dec_idle (p q : Nat) (w : World) (hc : w.cell? ⟨p, 0, none⟩ = some (.int .i64 0)) (hz : w.frozen? ⟨p, 0, none⟩ = false) :
    CallsD Try.prog 61 #[.pointer (some ⟨p, 0, none⟩), .pointer (some ⟨q, 0, none⟩)] .returning w fun e u' w' => e = .returned (.tuple #[]) ∧ u' = .returning ∧ w' = (w.setCell ⟨p, 0, none⟩ (.int .i64 0)).drew := by
  have mixed : Try.prog.follows .mixedOrders = true := by kernel_rfl
  refine callsD_of_wpS Try.func61 rfl fun c₀ cs hu => ?_
  apply wpS_seq
  refine wpS_region_draw4 mixed (by decide +kernel) (by decide +kernel) (by decide +kernel) (by decide +kernel) (by decide +kernel) (by decide +kernel) ?_ ?_
  all_goals
    simp [wpOpsS, go_sem, recoverD, hu, Try.ntmps61, Exit.thenS, hc, hz]
    refine (caught_nil _ _).mono ?_
    rintro e w1 ⟨rfl, rfl⟩
    simp [wpOpsS, go_sem, recoverD, hu, Try.ntmps61, Exit.thenS, hc, hz]
    apply wpS_seq
    apply wpS_region
    simp [wpOpsS, go_sem, recoverD, hu, Try.ntmps61, Exit.thenS, hc, hz]
    refine wpS_cond (t := false) (by simp [Act.eval, Array.replicate]) ?_
    simp only [Bool.false_eq_true, if_false]
    refine wpS_of_wp (wp_skip ?_)
    exact ⟨rfl, .returning, (by cases c₀; simp_all), _, (by simp [results, Try.results61]), rfl, rfl, rfl⟩
def zero13 (w : World) (q : Nat) : World := w.setCells q 0 (List.replicate 13 (.int .i64 0))
set_option maxHeartbeats 2000000 in
/-- Decode's deferred closure: a refusal was thrown. -/
theorem dec_catch (p q : Nat) (e0 c : Int) (hn : c ≠ 0) (w : World) (hc : w.cell? ⟨p, 0, none⟩ = some (.int .i64 e0)) (hz : w.frozen? ⟨p, 0, none⟩ = false) (vs : List Value) (hl : vs.length = 13) (hq : Cs w q vs) (hpq : p ≠ q) (hqp : q ≠ p) :
    CallsD Try.prog 61 #[.pointer (some ⟨p, 0, none⟩), .pointer (some ⟨q, 0, none⟩)] (.panicking [{ v := thrown c, recovered := false }]) w fun e u' w' => e = .returned (.tuple #[]) ∧ u' = .panicking [{ v := thrown c, recovered := true }] ∧ ∃ w1, Below w.heap.size w w1 ∧ w' = zero13 (w1.setCell ⟨p, 0, none⟩ (.int .i64 c)) q := by
  have mixed : Try.prog.follows .mixedOrders = true := by kernel_rfl
  have hpl : p < w.heap.size := World.block_lt_of_cell? w _ hc
  have hcn : (c != 0) = true := bne_iff_ne.mpr hn
  have HQ := Lib.hid hq
  clear hq
  unfold thrown
  refine callsD_of_wpS Try.func61 rfl fun c₀ cs hu => ?_
  apply wpS_seq
  refine wpS_region_draw4 mixed (by decide +kernel) (by decide +kernel) (by decide +kernel) (by decide +kernel) (by decide +kernel) (by decide +kernel) ?_ ?_
  all_goals
    simp [wpOpsS, go_sem, recoverD, hu, Try.ntmps61, Exit.thenS, hc, hz]
    refine (caught_yes c e0 _).mono ?_
    rintro e w1 ⟨rfl, hb⟩
    have hc1 : w1.cell? ⟨p, 0, none⟩ = some (.int .i64 e0) := (hb.cell (p := ⟨p, 0, none⟩) hpl).trans hc
    have hz1 : w1.frozen? ⟨p, 0, none⟩ = false := (hb.frozen (p := ⟨p, 0, none⟩) hpl).trans hz
    have HB : Hid (Below w.heap.size w w1) := Lib.hid ((Below.refl _ _).drew.trans hb)
    have HQ1 := Lib.hid (show Cs w1 q vs from (HQ.out.drew).after hb)
    clear hb
    simp [wpOpsS, go_sem, recoverD, hu, Try.ntmps61, Exit.thenS, hc, hz, hc1, hz1]
    have hs1 := Cs.other (a := ⟨p, 0, none⟩) hpq HQ1.out (.int .i64 c)
    have lq := hs1.1
    simp at lq
    match vs, hl with
    | [v0, v1, v2, v3, v4, v5, v6, v7, v8, v9, v10, v11, v12], _ =>
      have qc0 := (HQ1.out.at 0 rfl).1
      have qf0 := (HQ1.out.at 0 rfl).2
      have qc1 := (HQ1.out.at 1 rfl).1
      have qf1 := (HQ1.out.at 1 rfl).2
      have qc2 := (HQ1.out.at 2 rfl).1
      have qf2 := (HQ1.out.at 2 rfl).2
      have qc3 := (HQ1.out.at 3 rfl).1
      have qf3 := (HQ1.out.at 3 rfl).2
      have qc4 := (HQ1.out.at 4 rfl).1
      have qf4 := (HQ1.out.at 4 rfl).2
      have qc5 := (HQ1.out.at 5 rfl).1
      have qf5 := (HQ1.out.at 5 rfl).2
      have qc6 := (HQ1.out.at 6 rfl).1
      have qf6 := (HQ1.out.at 6 rfl).2
      have qc7 := (HQ1.out.at 7 rfl).1
      have qf7 := (HQ1.out.at 7 rfl).2
      have qc8 := (HQ1.out.at 8 rfl).1
      have qf8 := (HQ1.out.at 8 rfl).2
      have qc9 := (HQ1.out.at 9 rfl).1
      have qf9 := (HQ1.out.at 9 rfl).2
      have qc10 := (HQ1.out.at 10 rfl).1
      have qf10 := (HQ1.out.at 10 rfl).2
      have qc11 := (HQ1.out.at 11 rfl).1
      have qf11 := (HQ1.out.at 11 rfl).2
      have qc12 := (HQ1.out.at 12 rfl).1
      have qf12 := (HQ1.out.at 12 rfl).2
      clear hs1
      refine wpS_of_wp ?_
      go_wp2_with fail
      exact ⟨rfl, .panicking [{ v := thrown c, recovered := true }], rfl, _, (by simp [results, Try.results61]), rfl, rfl, w1, HB.out, rfl⟩
end Go.Proofs.Ytjlihpbnhojdgaa.Ev
