/- Contracts of meter.Tick, meter.Begin. -/
import Derived.Test.YtccjcdecpgigpaaDoorMet5
namespace Go.Proofs.YtccjcdecpgigpaaDoor.Met
open Go.RowKit Go.Proofs.YtccjcdecpgigpaaDoor.Base Go.Proofs.YtccjcdecpgigpaaDoor.Win Go.Proofs.YtccjcdecpgigpaaDoor.Orc Go.Proofs.YtccjcdecpgigpaaDoor.Tok
set_option linter.unusedVariables false
set_option linter.unusedSimpArgs false
set_option maxRecDepth 20000
def tickM (x : Mt) (ld : Int) : Mt := { x with cr := x.cr - min ld x.cr, lock := max (x.lock - 1) 0 }
set_option maxHeartbeats 1000000 in
theorem tick_any (x : Mt) (ld : Int) (w : World) (hx : x.ok) (hm : mmay x = true) (h0 : 0 ≤ ld) (h1 : ld ≤ 1000) :
    Calls Tryd.prog 78 #[.agg x.vals, .int .i64 ld] w fun e w' => e = .returned (.tuple #[.agg (tickM x ld).vals, .int .i64 (min ld x.cr), .int .i64 0]) ∧ Below w.heap.size w w' := by
  have hmay := fun w => mmay_any x w hx
  rw [hm] at hmay
  have HM := Lib.hid hmay
  obtain ⟨⟨⟨l0, l1⟩, ⟨l2, l3⟩, l4, l5⟩, ⟨⟨l6, l7⟩, ⟨l8, l9⟩, hbl⟩, hwm⟩ := mmay_lim hm
  clear hmay hm hx hbl hwm
  obtain ⟨me, rev, cr, wh, wb, bad, lock⟩ := x
  unfold tickM Mt.vals
  unfold Mt.vals at HM
  simp only at *
  go_enter Tryd.func78, Tryd.ntmps78
  go_wp2_with (fail)
  go_at_call 74
  refine (HM.out _).mono ?_
  rintro e w1 ⟨rfl, hb⟩
  obtain ⟨bc, bf⟩ := bcell hb
  have hz1 := hb.size
  simp at hz1
  have HB := Lib.hid (below_then' (blw_alloc (blw_alloc (Below.refl _ _) _) _) hb)
  have lt1 : w.heap.size < w1.heap.size := by omega
  have lt2 : w.heap.size + 1 < w1.heap.size := by omega
  have ag0 : w1.cell? ⟨w.heap.size, 0, none⟩ = some (.int .i64 me) := by rw [bc _ _ (by first | omega | (simp <;> omega))]; first | with_reducible assumption | go_simp
  have af0 : w1.frozen? ⟨w.heap.size, 0, none⟩ = false := by rw [bf _ _ (by first | omega | (simp <;> omega))]; first | with_reducible assumption | go_simp
  have ag1 : w1.cell? ⟨w.heap.size, 1, none⟩ = some (.int .i64 rev) := by rw [bc _ _ (by first | omega | (simp <;> omega))]; first | with_reducible assumption | go_simp
  have af1 : w1.frozen? ⟨w.heap.size, 1, none⟩ = false := by rw [bf _ _ (by first | omega | (simp <;> omega))]; first | with_reducible assumption | go_simp
  have ag2 : w1.cell? ⟨w.heap.size, 2, none⟩ = some (.int .i64 cr) := by rw [bc _ _ (by first | omega | (simp <;> omega))]; first | with_reducible assumption | go_simp
  have af2 : w1.frozen? ⟨w.heap.size, 2, none⟩ = false := by rw [bf _ _ (by first | omega | (simp <;> omega))]; first | with_reducible assumption | go_simp
  have ag3 : w1.cell? ⟨w.heap.size, 3, none⟩ = some (.int .i64 wh) := by rw [bc _ _ (by first | omega | (simp <;> omega))]; first | with_reducible assumption | go_simp
  have af3 : w1.frozen? ⟨w.heap.size, 3, none⟩ = false := by rw [bf _ _ (by first | omega | (simp <;> omega))]; first | with_reducible assumption | go_simp
  have ag4 : w1.cell? ⟨w.heap.size, 4, none⟩ = some (.int .u64 (wb : Int)) := by rw [bc _ _ (by first | omega | (simp <;> omega))]; first | with_reducible assumption | go_simp
  have af4 : w1.frozen? ⟨w.heap.size, 4, none⟩ = false := by rw [bf _ _ (by first | omega | (simp <;> omega))]; first | with_reducible assumption | go_simp
  have ag5 : w1.cell? ⟨w.heap.size, 5, none⟩ = some (.int .i64 bad) := by rw [bc _ _ (by first | omega | (simp <;> omega))]; first | with_reducible assumption | go_simp
  have af5 : w1.frozen? ⟨w.heap.size, 5, none⟩ = false := by rw [bf _ _ (by first | omega | (simp <;> omega))]; first | with_reducible assumption | go_simp
  have ag6 : w1.cell? ⟨w.heap.size, 6, none⟩ = some (.int .i64 lock) := by rw [bc _ _ (by first | omega | (simp <;> omega))]; first | with_reducible assumption | go_simp
  have af6 : w1.frozen? ⟨w.heap.size, 6, none⟩ = false := by rw [bf _ _ (by first | omega | (simp <;> omega))]; first | with_reducible assumption | go_simp
  have zg0 : w1.cell? ⟨w.heap.size + 1, 0, none⟩ = some (.int .i64 0) := by rw [bc _ _ (by first | omega | (simp <;> omega))]; first | with_reducible assumption | go_simp
  have zf0 : w1.frozen? ⟨w.heap.size + 1, 0, none⟩ = false := by rw [bf _ _ (by first | omega | (simp <;> omega))]; first | with_reducible assumption | go_simp
  have zg1 : w1.cell? ⟨w.heap.size + 1, 1, none⟩ = some (.int .i64 0) := by rw [bc _ _ (by first | omega | (simp <;> omega))]; first | with_reducible assumption | go_simp
  have zf1 : w1.frozen? ⟨w.heap.size + 1, 1, none⟩ = false := by rw [bf _ _ (by first | omega | (simp <;> omega))]; first | with_reducible assumption | go_simp
  have zg2 : w1.cell? ⟨w.heap.size + 1, 2, none⟩ = some (.int .i64 0) := by rw [bc _ _ (by first | omega | (simp <;> omega))]; first | with_reducible assumption | go_simp
  have zf2 : w1.frozen? ⟨w.heap.size + 1, 2, none⟩ = false := by rw [bf _ _ (by first | omega | (simp <;> omega))]; first | with_reducible assumption | go_simp
  have zg3 : w1.cell? ⟨w.heap.size + 1, 3, none⟩ = some (.int .i64 0) := by rw [bc _ _ (by first | omega | (simp <;> omega))]; first | with_reducible assumption | go_simp
  have zf3 : w1.frozen? ⟨w.heap.size + 1, 3, none⟩ = false := by rw [bf _ _ (by first | omega | (simp <;> omega))]; first | with_reducible assumption | go_simp
  have zg4 : w1.cell? ⟨w.heap.size + 1, 4, none⟩ = some (.int .u64 0) := by rw [bc _ _ (by first | omega | (simp <;> omega))]; first | with_reducible assumption | go_simp
  have zf4 : w1.frozen? ⟨w.heap.size + 1, 4, none⟩ = false := by rw [bf _ _ (by first | omega | (simp <;> omega))]; first | with_reducible assumption | go_simp
  have zg5 : w1.cell? ⟨w.heap.size + 1, 5, none⟩ = some (.int .i64 0) := by rw [bc _ _ (by first | omega | (simp <;> omega))]; first | with_reducible assumption | go_simp
  have zf5 : w1.frozen? ⟨w.heap.size + 1, 5, none⟩ = false := by rw [bf _ _ (by first | omega | (simp <;> omega))]; first | with_reducible assumption | go_simp
  have zg6 : w1.cell? ⟨w.heap.size + 1, 6, none⟩ = some (.int .i64 0) := by rw [bc _ _ (by first | omega | (simp <;> omega))]; first | with_reducible assumption | go_simp
  have zf6 : w1.frozen? ⟨w.heap.size + 1, 6, none⟩ = false := by rw [bf _ _ (by first | omega | (simp <;> omega))]; first | with_reducible assumption | go_simp
  clear hb bc bf
  go_wp2
  refine bodyPost_ret (v := .tuple #[.agg #[.int .i64 me, .int .i64 rev, .int .i64 (cr - min ld cr), .int .i64 wh, .int .u64 (wb : Int), .int .i64 bad, .int .i64 (max (lock - 1) 0)], .int .i64 (min ld cr), .int .i64 0]) (by simp [results, Tryd.results78, go_sem, zg0, zg1, zg2, zg3, zg4, zg5, zg6]) rfl ⟨rfl, ?_⟩
  exact set7 ((HB.out.setCell (p := ⟨w.heap.size, 2, none⟩) (Nat.le_refl _) _).setCell (p := ⟨w.heap.size, 6, none⟩) (Nat.le_refl _) _) (by omega) _ _ _ _ _ _ _
def beginM (me : Int) : Mt := ⟨me, 0, 0, 0, 0, 0, 0⟩
theorem begin_good (me : Int) (h0 : 0 ≤ me) (h1 : me < 50) : (beginM me).c1 ∧ (beginM me).c2 ∧ wmay (beginM me).wh (beginM me).wb = true := by
  refine ⟨⟨⟨h0, h1⟩, ?_, ?_⟩, ⟨?_, ?_, ?_⟩, rfl⟩
  all_goals simp [beginM]
set_option maxHeartbeats 1000000 in
theorem begin_any (me : Int) (w : World) (h0 : 0 ≤ me) (h1 : me < 50) :
    Calls Tryd.prog 49 #[.int .i64 me] w fun e w' => e = .returned (.tuple #[.agg (beginM me).vals, .int .i64 0]) ∧ Below w.heap.size w w' := by
  obtain ⟨g1, g2, g3⟩ := begin_good me h0 h1
  have hmay := fun w => mmay_any (beginM me) w (ok_of g1 g2 g3 (by show 0 < 18446744073709551616; omega))
  rw [mmay_of g1 g2 g3] at hmay
  have HM := Lib.hid hmay
  unfold beginM Mt.vals at HM
  unfold beginM Mt.vals
  clear hmay g1 g2 g3
  simp only at *
  go_enter Tryd.func49, Tryd.ntmps49
  go_wp2_with (fail)
  go_at_call 74
  refine (HM.out _).mono ?_
  rintro e w1 ⟨rfl, hb⟩
  obtain ⟨bc, bf⟩ := bcell hb
  have hz1 := hb.size
  simp at hz1
  have HB := Lib.hid (below_then' (blw_alloc (blw_alloc (Below.refl _ _) _) _) hb)
  have lt1 : w.heap.size < w1.heap.size := by omega
  have lt2 : w.heap.size + 1 < w1.heap.size := by omega
  have zg0 : w1.cell? ⟨w.heap.size, 0, none⟩ = some (.int .i64 0) := by rw [bc _ _ (by first | omega | (simp <;> omega))]; first | with_reducible assumption | go_simp
  have zf0 : w1.frozen? ⟨w.heap.size, 0, none⟩ = false := by rw [bf _ _ (by first | omega | (simp <;> omega))]; first | with_reducible assumption | go_simp
  have zg1 : w1.cell? ⟨w.heap.size, 1, none⟩ = some (.int .i64 0) := by rw [bc _ _ (by first | omega | (simp <;> omega))]; first | with_reducible assumption | go_simp
  have zf1 : w1.frozen? ⟨w.heap.size, 1, none⟩ = false := by rw [bf _ _ (by first | omega | (simp <;> omega))]; first | with_reducible assumption | go_simp
  have zg2 : w1.cell? ⟨w.heap.size, 2, none⟩ = some (.int .i64 0) := by rw [bc _ _ (by first | omega | (simp <;> omega))]; first | with_reducible assumption | go_simp
  have zf2 : w1.frozen? ⟨w.heap.size, 2, none⟩ = false := by rw [bf _ _ (by first | omega | (simp <;> omega))]; first | with_reducible assumption | go_simp
  have zg3 : w1.cell? ⟨w.heap.size, 3, none⟩ = some (.int .i64 0) := by rw [bc _ _ (by first | omega | (simp <;> omega))]; first | with_reducible assumption | go_simp
  have zf3 : w1.frozen? ⟨w.heap.size, 3, none⟩ = false := by rw [bf _ _ (by first | omega | (simp <;> omega))]; first | with_reducible assumption | go_simp
  have zg4 : w1.cell? ⟨w.heap.size, 4, none⟩ = some (.int .u64 0) := by rw [bc _ _ (by first | omega | (simp <;> omega))]; first | with_reducible assumption | go_simp
  have zf4 : w1.frozen? ⟨w.heap.size, 4, none⟩ = false := by rw [bf _ _ (by first | omega | (simp <;> omega))]; first | with_reducible assumption | go_simp
  have zg5 : w1.cell? ⟨w.heap.size, 5, none⟩ = some (.int .i64 0) := by rw [bc _ _ (by first | omega | (simp <;> omega))]; first | with_reducible assumption | go_simp
  have zf5 : w1.frozen? ⟨w.heap.size, 5, none⟩ = false := by rw [bf _ _ (by first | omega | (simp <;> omega))]; first | with_reducible assumption | go_simp
  have zg6 : w1.cell? ⟨w.heap.size, 6, none⟩ = some (.int .i64 0) := by rw [bc _ _ (by first | omega | (simp <;> omega))]; first | with_reducible assumption | go_simp
  have zf6 : w1.frozen? ⟨w.heap.size, 6, none⟩ = false := by rw [bf _ _ (by first | omega | (simp <;> omega))]; first | with_reducible assumption | go_simp
  have ag0 : w1.cell? ⟨w.heap.size + 1, 0, none⟩ = some (.int .i64 me) := by rw [bc _ _ (by first | omega | (simp <;> omega))]; first | with_reducible assumption | go_simp
  have af0 : w1.frozen? ⟨w.heap.size + 1, 0, none⟩ = false := by rw [bf _ _ (by first | omega | (simp <;> omega))]; first | with_reducible assumption | go_simp
  have ag1 : w1.cell? ⟨w.heap.size + 1, 1, none⟩ = some (.int .i64 0) := by rw [bc _ _ (by first | omega | (simp <;> omega))]; first | with_reducible assumption | go_simp
  have af1 : w1.frozen? ⟨w.heap.size + 1, 1, none⟩ = false := by rw [bf _ _ (by first | omega | (simp <;> omega))]; first | with_reducible assumption | go_simp
  have ag2 : w1.cell? ⟨w.heap.size + 1, 2, none⟩ = some (.int .i64 0) := by rw [bc _ _ (by first | omega | (simp <;> omega))]; first | with_reducible assumption | go_simp
  have af2 : w1.frozen? ⟨w.heap.size + 1, 2, none⟩ = false := by rw [bf _ _ (by first | omega | (simp <;> omega))]; first | with_reducible assumption | go_simp
  have ag3 : w1.cell? ⟨w.heap.size + 1, 3, none⟩ = some (.int .i64 0) := by rw [bc _ _ (by first | omega | (simp <;> omega))]; first | with_reducible assumption | go_simp
  have af3 : w1.frozen? ⟨w.heap.size + 1, 3, none⟩ = false := by rw [bf _ _ (by first | omega | (simp <;> omega))]; first | with_reducible assumption | go_simp
  have ag4 : w1.cell? ⟨w.heap.size + 1, 4, none⟩ = some (.int .u64 0) := by rw [bc _ _ (by first | omega | (simp <;> omega))]; first | with_reducible assumption | go_simp
  have af4 : w1.frozen? ⟨w.heap.size + 1, 4, none⟩ = false := by rw [bf _ _ (by first | omega | (simp <;> omega))]; first | with_reducible assumption | go_simp
  have ag5 : w1.cell? ⟨w.heap.size + 1, 5, none⟩ = some (.int .i64 0) := by rw [bc _ _ (by first | omega | (simp <;> omega))]; first | with_reducible assumption | go_simp
  have af5 : w1.frozen? ⟨w.heap.size + 1, 5, none⟩ = false := by rw [bf _ _ (by first | omega | (simp <;> omega))]; first | with_reducible assumption | go_simp
  have ag6 : w1.cell? ⟨w.heap.size + 1, 6, none⟩ = some (.int .i64 0) := by rw [bc _ _ (by first | omega | (simp <;> omega))]; first | with_reducible assumption | go_simp
  have af6 : w1.frozen? ⟨w.heap.size + 1, 6, none⟩ = false := by rw [bf _ _ (by first | omega | (simp <;> omega))]; first | with_reducible assumption | go_simp
  clear hb bc bf
  go_wp2
  refine bodyPost_ret (v := .tuple #[.agg #[.int .i64 me, .int .i64 0, .int .i64 0, .int .i64 0, .int .u64 0, .int .i64 0, .int .i64 0], .int .i64 0]) (by simp [results, Tryd.results49, go_sem, zg0, zg1, zg2, zg3, zg4, zg5, zg6]) rfl ⟨rfl, ?_⟩
  exact set7 HB.out (Nat.le_refl _) _ _ _ _ _ _ _
end Go.Proofs.YtccjcdecpgigpaaDoor.Met
