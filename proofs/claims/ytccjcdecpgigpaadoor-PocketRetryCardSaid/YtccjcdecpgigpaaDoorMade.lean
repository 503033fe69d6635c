/- The contract of made. -/
import Derived.Test.YtccjcdecpgigpaaDoorTok
import Derived.Deep.RegionHeld3
namespace Go.Proofs.YtccjcdecpgigpaaDoor.Tok
open Go.RowKit Go.Proofs.YtccjcdecpgigpaaDoor.Base
set_option linter.unusedVariables false
set_option linter.unusedSimpArgs false
set_option maxRecDepth 20000
def madeT (x : Tk) : Tk := ⟨pk x.cl 4, 1 + pk x.id 1048575, if pk x.cl 4 = 0 then 1 + pk x.am 2097151 else if pk x.cl 4 = 2 then 1 + pk x.am 15 else 0, pk x.tag 65536⟩
theorem made_good (x : Tk) : faultI (madeT x) = 0 := by
  obtain ⟨a0, a1⟩ := pk_bound x.cl 4 (by omega)
  obtain ⟨b0, b1⟩ := pk_bound x.id 1048575 (by omega)
  obtain ⟨c0, c1⟩ := pk_bound x.am 2097151 (by omega)
  obtain ⟨d0, d1⟩ := pk_bound x.am 15 (by omega)
  obtain ⟨e0, e1⟩ := pk_bound x.tag 65536 (by omega)
  unfold faultI
  rw [if_pos, if_pos]
  · unfold inb madeT amLo amHi
    refine ⟨⟨by simp only; omega, by simp only; omega⟩, ⟨?_, ?_⟩, by simp only; omega, by simp only; omega⟩ <;> simp only <;> split <;> (try split) <;> omega
  · unfold clok madeT
    simp only
    omega
set_option maxHeartbeats 1000000 in
theorem made_any (x : Tk) (w : World) (hk : x.ok) :
    Calls Tryd.prog 15 #[.agg x.vals] w fun e w' => e = .returned (.agg (madeT x).vals) ∧ Below w.heap.size w w' := by
  obtain ⟨⟨⟨a0, a1⟩, ⟨b0, b1⟩⟩, ⟨c0, c1⟩, d0, d1⟩ := hk
  obtain ⟨cl, id, am, tag⟩ := x
  have hT : madeT ⟨cl, id, am, tag⟩ = ⟨pk cl 4, 1 + pk id 1048575, if pk cl 4 = 0 then 1 + pk am 2097151 else if pk cl 4 = 2 then 1 + pk am 15 else 0, pk tag 65536⟩ := rfl
  obtain ⟨q0, q1⟩ := pk_bound cl 4 (by omega)
  obtain ⟨r0, r1⟩ := pk_bound id 1048575 (by omega)
  obtain ⟨s0, s1⟩ := pk_bound am 2097151 (by omega)
  obtain ⟨t0, t1⟩ := pk_bound am 15 (by omega)
  rw [hT]
  unfold Tk.vals
  simp only at *
  clear hT
  obtain ⟨k, hq⟩ : ∃ k, pk cl 4 = k := ⟨_, rfl⟩
  obtain ⟨i, hi⟩ : ∃ k, pk id 1048575 = k := ⟨_, rfl⟩
  obtain ⟨u, hu⟩ : ∃ k, pk am 2097151 = k := ⟨_, rfl⟩
  obtain ⟨v, hv⟩ : ∃ k, pk am 15 = k := ⟨_, rfl⟩
  obtain ⟨g, hg⟩ : ∃ k, pk tag 65536 = k := ⟨_, rfl⟩
  rw [hq, hi, hu, hv, hg]
  rw [hq] at q0 q1
  rw [hi] at r0 r1
  rw [hu] at s0 s1
  rw [hv] at t0 t1
  have hk : k = 0 ∨ k = 2 ∨ (k ≠ 0 ∧ k ≠ 2) := by omega
  rcases hk with rfl | rfl | ⟨k0, k2⟩
  · rw [if_pos rfl]
    go_enter Tryd.func15, Tryd.ntmps15
    go_wp2
    go_region_held3 (fun w' => w'.cell? ⟨w.heap.size, 0, none⟩ = some (.int .i64 cl) ∧ w'.cell? ⟨w.heap.size, 1, none⟩ = some (.int .i64 id) ∧ w'.cell? ⟨w.heap.size, 3, none⟩ = some (.int .i64 tag)) (go_keep) ((go_at_call 17; refine (picked_any _ _ _ (by omega) (by omega) (by omega)).mono ?_; rintro e w' ⟨rfl, rfl⟩; first | rw [hq] | rw [hi] | rw [hg]))
    all_goals
      have wi : IntKind.i64.wrap (1 + i) = 1 + i := by rw [IntKind.wrap_i64]; omega
      have wu : IntKind.i64.wrap (1 + u) = 1 + u := by rw [IntKind.wrap_i64]; omega
      have wv : IntKind.i64.wrap (1 + v) = 1 + v := by rw [IntKind.wrap_i64]; omega
      rw [wi]
      go_wp2_with (fail)
      go_at_call 17
      refine (picked_any _ _ _ (by omega) (by omega) (by omega)).mono ?_
      rintro e w' ⟨rfl, rfl⟩
      rw [hu]
      go_wp2
      refine bodyPost_ret (v := .agg #[.int .i64 0, .int .i64 (1 + i), .int .i64 (1 + u), .int .i64 g]) (by simp [results, Tryd.results15, go_sem]) rfl ⟨rfl, ?_⟩
      exact (blw_alloc (blw_alloc (blw_alloc (Below.refl _ _) _) _) _).drew
  · rw [if_neg (by omega), if_pos rfl]
    go_enter Tryd.func15, Tryd.ntmps15
    go_wp2
    go_region_held3 (fun w' => w'.cell? ⟨w.heap.size, 0, none⟩ = some (.int .i64 cl) ∧ w'.cell? ⟨w.heap.size, 1, none⟩ = some (.int .i64 id) ∧ w'.cell? ⟨w.heap.size, 3, none⟩ = some (.int .i64 tag)) (go_keep) ((go_at_call 17; refine (picked_any _ _ _ (by omega) (by omega) (by omega)).mono ?_; rintro e w' ⟨rfl, rfl⟩; first | rw [hq] | rw [hi] | rw [hg]))
    all_goals
      have wi : IntKind.i64.wrap (1 + i) = 1 + i := by rw [IntKind.wrap_i64]; omega
      have wu : IntKind.i64.wrap (1 + u) = 1 + u := by rw [IntKind.wrap_i64]; omega
      have wv : IntKind.i64.wrap (1 + v) = 1 + v := by rw [IntKind.wrap_i64]; omega
      rw [wi]
      go_wp2_with (fail)
      go_at_call 17
      refine (picked_any _ _ _ (by omega) (by omega) (by omega)).mono ?_
      rintro e w' ⟨rfl, rfl⟩
      rw [hv]
      go_wp2
      refine bodyPost_ret (v := .agg #[.int .i64 2, .int .i64 (1 + i), .int .i64 (1 + v), .int .i64 g]) (by simp [results, Tryd.results15, go_sem]) rfl ⟨rfl, ?_⟩
      exact (blw_alloc (blw_alloc (blw_alloc (Below.refl _ _) _) _) _).drew
  · rw [if_neg k0, if_neg k2]
    have k0' : (k == 0) = false := beq_eq_false_iff_ne.mpr k0
    have k2' : (k == 2) = false := beq_eq_false_iff_ne.mpr k2
    go_enter Tryd.func15, Tryd.ntmps15
    go_wp2
    go_region_held3 (fun w' => w'.cell? ⟨w.heap.size, 0, none⟩ = some (.int .i64 cl) ∧ w'.cell? ⟨w.heap.size, 1, none⟩ = some (.int .i64 id) ∧ w'.cell? ⟨w.heap.size, 3, none⟩ = some (.int .i64 tag)) (go_keep) ((go_at_call 17; refine (picked_any _ _ _ (by omega) (by omega) (by omega)).mono ?_; rintro e w' ⟨rfl, rfl⟩; first | rw [hq] | rw [hi] | rw [hg]))
    all_goals
      have wi : IntKind.i64.wrap (1 + i) = 1 + i := by rw [IntKind.wrap_i64]; omega
      have wu : IntKind.i64.wrap (1 + u) = 1 + u := by rw [IntKind.wrap_i64]; omega
      have wv : IntKind.i64.wrap (1 + v) = 1 + v := by rw [IntKind.wrap_i64]; omega
      rw [wi]
      go_wp2
      refine bodyPost_ret (v := .agg #[.int .i64 k, .int .i64 (1 + i), .int .i64 0, .int .i64 g]) (by simp [results, Tryd.results15, go_sem]) rfl ⟨rfl, ?_⟩
      exact (blw_alloc (blw_alloc (blw_alloc (Below.refl _ _) _) _) _).drew
end Go.Proofs.YtccjcdecpgigpaaDoor.Tok
