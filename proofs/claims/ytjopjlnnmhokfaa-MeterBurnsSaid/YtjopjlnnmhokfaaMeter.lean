/- Contracts of package meter for meters that took nothing yet. -/
import Derived.Test.YtjopjlnnmhokfaaBase
import Derived.Test.YtjopjlnnmhokfaaApp
import Derived.Deep.RegionHeld3
namespace Go.Proofs.Ytjopjlnnmhokfaa.Meter
open Go.RowKit Go.Proofs.Ytjopjlnnmhokfaa.Base
set_option linter.unusedVariables false
set_option linter.unusedSimpArgs false
set_option maxRecDepth 20000

theorem wmay_zero (w : World) : Calls Try.prog 54 #[.agg #[.int .i64 0, .int .u64 0]] w fun e w' => e = .returned (.bool true) ∧ Below w.heap.size w w' := by
  go_enter Try.func54, Try.ntmps54
  go_wp2
  go_ret
  exact ⟨rfl, blw_alloc (Below.refl _ _) _⟩
theorem used_zero (w : World) : Calls Try.prog 68 #[.agg #[.int .i64 0, .int .u64 0]] w fun e w' => e = .returned (.tuple #[.slice none 0 0, .int .i64 0]) ∧ Below w.heap.size w w' := by
  go_enter Try.func68, Try.ntmps68
  go_wp2_with (fail)
  go_at_call 54
  refine (wmay_zero _).mono ?_
  rintro e w1 ⟨rfl, hb⟩
  obtain ⟨bc, bf⟩ := bcell hb
  have hz1 := hb.size
  simp at hz1
  have HB := Lib.hid hb
  clear hb
  have lt1 : w.heap.size < w1.heap.size := by omega
  go_wp2
  refine wp_loop_rounds 1 ?_
  rw [rounds_succ]
  go_wp2
  go_ret2
  exact ⟨rfl, below_then' (blw_alloc (Below.refl _ _) _) HB.out⟩
def mtA (me rev cr bad lock : Int) : Array Value := #[.int .i64 me, .int .i64 rev, .int .i64 cr, .int .i64 0, .int .u64 0, .int .i64 bad, .int .i64 lock]
def MtOk (me rev cr bad lock : Int) : Prop := (0 ≤ me ∧ me < 50) ∧ (0 ≤ rev ∧ rev ≤ 15) ∧ (0 ≤ cr ∧ cr ≤ 99999999) ∧ (0 ≤ bad ∧ bad < 5) ∧ (0 ≤ lock ∧ lock ≤ 30) ∧ (bad = 0 ∨ lock = 0)
set_option maxHeartbeats 1000000 in
theorem mmay_any (me rev cr bad lock : Int) (w : World) (h : MtOk me rev cr bad lock) : Calls Try.prog 63 #[.agg (mtA me rev cr bad lock)] w fun e w' => e = .returned (.bool true) ∧ Below w.heap.size w w' := by
  obtain ⟨⟨a0, a1⟩, ⟨b0, b1⟩, ⟨c0, c1⟩, ⟨d0, d1⟩, ⟨e0, e1⟩, hbl⟩ := h
  have hb' : ¬ (0 < bad ∧ 0 < lock) := by omega
  unfold mtA
  go_enter Try.func63, Try.ntmps63
  have h3 : bad = 0 ∨ (lock = 0 ∧ 0 < bad) := by omega
  clear hb' hbl
  rcases h3 with rfl | ⟨rfl, hpos⟩
  all_goals
    go_wp2_with (fail)
    go_at_call 68
    refine (used_zero _).mono ?_
    rintro e w1 ⟨rfl, hb⟩
    have HB := Lib.hid hb
    clear hb
    go_wp2
    go_ret
    exact ⟨rfl, below_then' (blw_alloc (Below.refl _ _) _) HB.out⟩

theorem newMeter_any (a b c d : Int) (w : World) (ha : -9223372036854775808 ≤ a ∧ a ≤ 9223372036854775807) (hb : -9223372036854775808 ≤ b ∧ b ≤ 9223372036854775807) (hc : -9223372036854775808 ≤ c ∧ c ≤ 9223372036854775807) (hd : -9223372036854775808 ≤ d ∧ d ≤ 9223372036854775807) :
    Calls Try.prog 36 #[.agg #[.int .i64 a, .int .i64 b, .int .i64 c, .int .i64 d]] w fun e w' => e = .returned (.agg (mtA (pk a 50) (pk b 16) (pk c 100000000) (pk d 5) 0)) ∧ Below w.heap.size w w' := by
  obtain ⟨a0, a1⟩ := ha
  obtain ⟨b0, b1⟩ := hb
  obtain ⟨c0, c1⟩ := hc
  obtain ⟨d0, d1⟩ := hd
  go_enter Try.func36, Try.ntmps36
  go_wp2
  go_region_held3 (fun w' => w'.cell? ⟨w.heap.size, 0, none⟩ = some (.int .i64 a) ∧ w'.cell? ⟨w.heap.size, 1, none⟩ = some (.int .i64 b) ∧ w'.cell? ⟨w.heap.size, 2, none⟩ = some (.int .i64 c) ∧ w'.cell? ⟨w.heap.size, 3, none⟩ = some (.int .i64 d)) (go_keep) ((go_at_call 15; refine (picked_any _ _ _ (by omega) (by omega) (by omega)).mono ?_; rintro e w' ⟨rfl, rfl⟩))
  go_wp2
  refine bodyPost_ret (v := .agg (mtA (pk a 50) (pk b 16) (pk c 100000000) (pk d 5) 0)) (by simp [results, Try.results36, go_sem, mtA]) rfl ⟨rfl, ?_⟩
  exact (blw_alloc (blw_alloc (Below.refl _ _) _) _).drew
end Go.Proofs.Ytjopjlnnmhokfaa.Meter
