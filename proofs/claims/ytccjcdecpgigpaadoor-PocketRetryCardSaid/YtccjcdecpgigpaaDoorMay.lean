/- Contracts of meter.may, meter.Words. -/
import Derived.Test.YtccjcdecpgigpaaDoorUsed
namespace Go.Proofs.YtccjcdecpgigpaaDoor.Met
open Go.RowKit Go.Proofs.YtccjcdecpgigpaaDoor.Base Go.Proofs.YtccjcdecpgigpaaDoor.Win
set_option linter.unusedVariables false
set_option linter.unusedSimpArgs false
set_option maxRecDepth 20000
/-- A meter's registers. -/
structure Mt where
  me : Int
  rev : Int
  cr : Int
  wh : Int
  wb : Nat
  bad : Int
  lock : Int
def i64 (n : Int) : Prop := -9223372036854775808 ≤ n ∧ n ≤ 9223372036854775807
def Mt.vals (m : Mt) : Array Value := #[.int .i64 m.me, .int .i64 m.rev, .int .i64 m.cr, .int .i64 m.wh, .int .u64 (m.wb : Int), .int .i64 m.bad, .int .i64 m.lock]
def Mt.ok (m : Mt) : Prop := (i64 m.me ∧ i64 m.rev ∧ i64 m.cr) ∧ (i64 m.wh ∧ m.wb < 18446744073709551616) ∧ i64 m.bad ∧ i64 m.lock
def Mt.c1 (m : Mt) : Prop := (0 ≤ m.me ∧ m.me < 50) ∧ (0 ≤ m.rev ∧ m.rev ≤ 15) ∧ 0 ≤ m.cr ∧ m.cr ≤ 99999999
def Mt.c2 (m : Mt) : Prop := (0 ≤ m.bad ∧ m.bad < 5) ∧ (0 ≤ m.lock ∧ m.lock ≤ 30) ∧ ¬ (0 < m.bad ∧ 0 < m.lock)
instance (m : Mt) : Decidable m.c1 := by unfold Mt.c1; infer_instance
instance (m : Mt) : Decidable m.c2 := by unfold Mt.c2; infer_instance
def mmay (m : Mt) : Bool := decide m.c1 && (decide m.c2 && wmay m.wh m.wb)
theorem used_no (h : Int) (B : Nat) (w : World) (hm : wmay h B = false) (h0 : -9223372036854775808 ≤ h) (h1 : h ≤ 9223372036854775807) (hB : B < 18446744073709551616) :
    Calls Tryd.prog 113 #[.agg #[.int .i64 h, .int .u64 (B : Int)]] w fun e w' => e = .returned (.tuple #[.slice none 0 0, .int .i64 5]) ∧ Below w.heap.size w w' := by
  have hmay := fun w => may_any h B w h0 h1 hB
  rw [hm] at hmay
  have HM := Lib.hid hmay
  clear hmay hm
  go_enter Tryd.func113, Tryd.ntmps113
  go_wp2_with (fail)
  go_at_call 145
  refine (HM.out _).mono ?_
  rintro e w1 ⟨rfl, hb⟩
  have HB1 := Lib.hid (below_then' (blw_alloc (Below.refl _ _) _) hb)
  clear hb
  go_wp2
  go_ret2
  exact ⟨rfl, HB1.out⟩
theorem used_ends (h : Int) (B : Nat) (w : World) (h0 : -9223372036854775808 ≤ h) (h1 : h ≤ 9223372036854775807) (hB : B < 18446744073709551616) :
    Calls Tryd.prog 113 #[.agg #[.int .i64 h, .int .u64 (B : Int)]] w fun e w' => (∃ v, e = .returned (.tuple #[v, .int .i64 (if wmay h B then 0 else 5)])) ∧ Below w.heap.size w w' := by
  cases hm : wmay h B
  · exact (used_no h B w hm h0 h1 hB).mono fun e w' ⟨a, b⟩ => ⟨⟨_, a⟩, b⟩
  · exact (used_any h B w hm hB).mono fun e w' ⟨A, c, a, _, b⟩ => ⟨⟨_, a⟩, b⟩
set_option maxHeartbeats 1000000 in
theorem mmay_any (m : Mt) (w : World) (ok : m.ok) : Calls Tryd.prog 74 #[.agg m.vals] w fun e w' => e = .returned (.bool (mmay m)) ∧ Below w.heap.size w w' := by
  obtain ⟨me, rev, cr, wh, wb, bad, lock⟩ := m
  obtain ⟨_, ⟨⟨w0, w1⟩, wl⟩, _⟩ := ok
  unfold Mt.vals
  simp only at *
  have HU := Lib.hid (fun w => used_ends wh wb w w0 w1 wl)
  obtain ⟨R, hR⟩ : ∃ R, R = mmay ⟨me, rev, cr, wh, wb, bad, lock⟩ := ⟨_, rfl⟩
  rw [← hR]
  by_cases hc1 : Mt.c1 ⟨me, rev, cr, wh, wb, bad, lock⟩
  · by_cases hc2 : Mt.c2 ⟨me, rev, cr, wh, wb, bad, lock⟩
    · have hr : R = wmay wh wb := by rw [hR]; unfold mmay; rw [decide_eq_true hc1, decide_eq_true hc2]; rfl
      have HR := Lib.hid hr
      obtain ⟨⟨a0, a1⟩, ⟨b0, b1⟩, c0, c1⟩ := hc1
      obtain ⟨⟨d0, d1⟩, ⟨e0, e1⟩, hbl⟩ := hc2
      simp only at *
      have h3 : bad = 0 ∨ (lock = 0 ∧ 0 < bad) := by omega
      clear hR hr hbl
      cases hwm : wmay wh wb
      all_goals
        rw [hwm] at HU HR
        have HW := Lib.hid hwm
        clear hwm
        rcases h3 with rfl | ⟨rfl, hpos⟩
        all_goals
          go_enter Tryd.func74, Tryd.ntmps74
          go_wp2_with (fail)
          go_at_call 113
          refine (HU.out _).mono ?_
          rintro e w1 ⟨⟨v, rfl⟩, hb⟩
          have HB := Lib.hid hb
          clear hb
          go_wp2
          go_ret
          exact ⟨ret_bool HR.out.symm, below_then' (blw_alloc (Below.refl _ _) _) HB.out⟩
    · have hr : R = false := by rw [hR]; unfold mmay; rw [decide_eq_false hc2]; simp
      have HR := Lib.hid hr
      obtain ⟨⟨a0, a1⟩, ⟨b0, b1⟩, c0, c1⟩ := hc1
      have HC := Lib.hid hc2
      unfold Mt.c2 at HC
      simp only at *
      clear hR hr hc2
      go_enter Tryd.func74, Tryd.ntmps74
      go_wp2_with (fail)
      all_goals first
        | (exfalso; have := HC.out; omega)
        | (go_ret; exact ⟨ret_bool HR.out.symm, blw_alloc (Below.refl _ _) _⟩)
  · have hr : R = false := by rw [hR]; unfold mmay; rw [decide_eq_false hc1]; simp
    have HR := Lib.hid hr
    have HC := Lib.hid hc1
    unfold Mt.c1 at HC
    simp only at *
    clear hR hr hc1
    go_enter Tryd.func74, Tryd.ntmps74
    go_wp2_with (fail)
    all_goals first
      | (exfalso; have := HC.out; omega)
      | (go_ret; exact ⟨ret_bool HR.out.symm, blw_alloc (Below.refl _ _) _⟩)
end Go.Proofs.YtccjcdecpgigpaaDoor.Met
