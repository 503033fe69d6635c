/- The walk of MeterBurns. -/
import Derived.Test.YtjopjlnnmhokfaaMeter
import Derived.Test.YtjopjlnnmhokfaaOpenS
namespace Go.Proofs.Ytjopjlnnmhokfaa.MeterBurns
open Go.RowKit Go.Proofs.Ytjopjlnnmhokfaa.Base Go.Proofs.Ytjopjlnnmhokfaa.Meter
set_option linter.unusedVariables false
set_option linter.unusedSimpArgs false
set_option maxRecDepth 20000

structure Nw where
  a : Int
  b : Int
  c : Int
  d : Int
def i64 (n : Int) : Prop := -9223372036854775808 ≤ n ∧ n ≤ 9223372036854775807
def Nw.ok (x : Nw) : Prop := i64 x.a ∧ i64 x.b ∧ i64 x.c ∧ i64 x.d
def Nw.cs (x : Nw) : List Value := [.int .i64 x.a, .int .i64 x.b, .int .i64 x.c, .int .i64 x.d]
open Go.ChangeShapes Go.WideShapes Go.ChangeAt in
theorem opens_nw {H : Type} {enc : TypeId × Value → H} {W : World} : Open.Opens enc Try.prog W 80 (fun (x : Nw) cs => cs = x.cs ∧ x.ok) := by
  refine Open.opens_struct Try.underlying80 fun cs hl hf => ?_
  rw [show Try.prog.cellsOf 80 = 4 by kernel_rfl] at hl
  match cs, hl with
  | [c0, c1, c2, c3], _ =>
    obtain ⟨x0, e0, f0⟩ := Open.fld hf 0 rfl 0 1 rfl rfl (by kernel_rfl) (Open.opens_int Try.underlying3)
    obtain ⟨x1, e1, f1⟩ := Open.fld hf 1 rfl 1 1 rfl rfl (by kernel_rfl) (Open.opens_int Try.underlying3)
    obtain ⟨x2, e2, f2⟩ := Open.fld hf 2 rfl 2 1 rfl rfl (by kernel_rfl) (Open.opens_int Try.underlying3)
    obtain ⟨x3, e3, f3⟩ := Open.fld hf 3 rfl 3 1 rfl rfl (by kernel_rfl) (Open.opens_int Try.underlying3)
    simp at e0 e1 e2 e3
    subst e0 e1 e2 e3
    exact ⟨⟨x0, x1, x2, x3⟩, rfl, i64_bound f0, i64_bound f1, i64_bound f2, i64_bound f3⟩

set_option maxHeartbeats 1000000
theorem tick_any (me rev cr bad load : Int) (w : World) (h : MtOk me rev cr bad 0) (l0 : 0 ≤ load) (l1 : load ≤ 1000) (bu : Int) (hbu : bu = (if cr < load then cr else load)) :
    Calls Try.prog 37 #[.agg (mtA me rev cr bad 0), .int .i64 load] w fun e w' => e = .returned (.tuple #[.agg (mtA me rev (cr - bu) bad 0), .int .i64 bu, .int .i64 0]) ∧ Below w.heap.size w w' := by
  have HM := Lib.hid h
  obtain ⟨⟨a0, a1⟩, ⟨b0, b1⟩, ⟨c0, c1⟩, ⟨d0, d1⟩, _, _⟩ := h
  show Calls Try.prog 37 #[.agg #[.int .i64 me, .int .i64 rev, .int .i64 cr, .int .i64 0, .int .u64 0, .int .i64 bad, .int .i64 0], .int .i64 load] w _
  by_cases hc : cr < load
  · rw [if_pos hc] at hbu
    rw [hbu]
    clear hbu bu
    go_enter Try.func37, Try.ntmps37
    go_wp2_with (fail)
    go_at_call 63
    refine (mmay_any me rev cr bad 0 _ HM.out).mono ?_
    rintro e w1 ⟨rfl, hb⟩
    obtain ⟨bc, bf⟩ := bcell hb
    have hz1 := hb.size
    simp at hz1
    have HB := Lib.hid hb
    clear hb
    have lt1 : w.heap.size < w1.heap.size := by omega
    have lt2 : w.heap.size + 1 < w1.heap.size := by omega
    have g0 : w1.cell? ⟨w.heap.size, 0, none⟩ = some (.int .i64 me) := by rw [bc _ _ (by simp <;> omega)]; go_simp
    have f0 : w1.frozen? ⟨w.heap.size, 0, none⟩ = false := by rw [bf _ _ (by simp <;> omega)]; go_simp
    have g1 : w1.cell? ⟨w.heap.size, 1, none⟩ = some (.int .i64 rev) := by rw [bc _ _ (by simp <;> omega)]; go_simp
    have f1 : w1.frozen? ⟨w.heap.size, 1, none⟩ = false := by rw [bf _ _ (by simp <;> omega)]; go_simp
    have g2 : w1.cell? ⟨w.heap.size, 2, none⟩ = some (.int .i64 cr) := by rw [bc _ _ (by simp <;> omega)]; go_simp
    have f2 : w1.frozen? ⟨w.heap.size, 2, none⟩ = false := by rw [bf _ _ (by simp <;> omega)]; go_simp
    have g3 : w1.cell? ⟨w.heap.size, 3, none⟩ = some (.int .i64 0) := by rw [bc _ _ (by simp <;> omega)]; go_simp
    have f3 : w1.frozen? ⟨w.heap.size, 3, none⟩ = false := by rw [bf _ _ (by simp <;> omega)]; go_simp
    have g4 : w1.cell? ⟨w.heap.size, 4, none⟩ = some (.int .u64 0) := by rw [bc _ _ (by simp <;> omega)]; go_simp
    have f4 : w1.frozen? ⟨w.heap.size, 4, none⟩ = false := by rw [bf _ _ (by simp <;> omega)]; go_simp
    have g5 : w1.cell? ⟨w.heap.size, 5, none⟩ = some (.int .i64 bad) := by rw [bc _ _ (by simp <;> omega)]; go_simp
    have f5 : w1.frozen? ⟨w.heap.size, 5, none⟩ = false := by rw [bf _ _ (by simp <;> omega)]; go_simp
    have g6 : w1.cell? ⟨w.heap.size, 6, none⟩ = some (.int .i64 0) := by rw [bc _ _ (by simp <;> omega)]; go_simp
    have f6 : w1.frozen? ⟨w.heap.size, 6, none⟩ = false := by rw [bf _ _ (by simp <;> omega)]; go_simp
    have r0 : w1.cell? ⟨w.heap.size + 1, 0, none⟩ = some (.int .i64 0) := by rw [bc _ _ (by simp <;> omega)]; go_simp
    have s0 : w1.frozen? ⟨w.heap.size + 1, 0, none⟩ = false := by rw [bf _ _ (by simp <;> omega)]; go_simp
    have r1 : w1.cell? ⟨w.heap.size + 1, 1, none⟩ = some (.int .i64 0) := by rw [bc _ _ (by simp <;> omega)]; go_simp
    have s1 : w1.frozen? ⟨w.heap.size + 1, 1, none⟩ = false := by rw [bf _ _ (by simp <;> omega)]; go_simp
    have r2 : w1.cell? ⟨w.heap.size + 1, 2, none⟩ = some (.int .i64 0) := by rw [bc _ _ (by simp <;> omega)]; go_simp
    have s2 : w1.frozen? ⟨w.heap.size + 1, 2, none⟩ = false := by rw [bf _ _ (by simp <;> omega)]; go_simp
    have r3 : w1.cell? ⟨w.heap.size + 1, 3, none⟩ = some (.int .i64 0) := by rw [bc _ _ (by simp <;> omega)]; go_simp
    have s3 : w1.frozen? ⟨w.heap.size + 1, 3, none⟩ = false := by rw [bf _ _ (by simp <;> omega)]; go_simp
    have r4 : w1.cell? ⟨w.heap.size + 1, 4, none⟩ = some (.int .u64 0) := by rw [bc _ _ (by simp <;> omega)]; go_simp
    have s4 : w1.frozen? ⟨w.heap.size + 1, 4, none⟩ = false := by rw [bf _ _ (by simp <;> omega)]; go_simp
    have r5 : w1.cell? ⟨w.heap.size + 1, 5, none⟩ = some (.int .i64 0) := by rw [bc _ _ (by simp <;> omega)]; go_simp
    have s5 : w1.frozen? ⟨w.heap.size + 1, 5, none⟩ = false := by rw [bf _ _ (by simp <;> omega)]; go_simp
    have r6 : w1.cell? ⟨w.heap.size + 1, 6, none⟩ = some (.int .i64 0) := by rw [bc _ _ (by simp <;> omega)]; go_simp
    have s6 : w1.frozen? ⟨w.heap.size + 1, 6, none⟩ = false := by rw [bf _ _ (by simp <;> omega)]; go_simp
    clear bc bf
    go_wp2
    have hW := below_then' (blw_alloc (blw_alloc (Below.refl _ _) _) _) HB.out
    refine bodyPost_ret (v := .tuple #[.agg (mtA me rev (cr - cr) bad 0), .int .i64 cr, .int .i64 0]) (by simp [results, Try.results37, go_sem, mtA, g0, r0, g1, r1, g2, r2, g3, r3, g4, r4, g5, r5, g6, r6]) rfl ⟨rfl, ?_⟩
    repeat (first | with_reducible exact hW | refine Below.setCell ?_ (by first | exact Nat.le_refl _ | exact Nat.le_succ _) _)
  · rw [if_neg hc] at hbu
    rw [hbu]
    clear hbu bu
    go_enter Try.func37, Try.ntmps37
    go_wp2_with (fail)
    go_at_call 63
    refine (mmay_any me rev cr bad 0 _ HM.out).mono ?_
    rintro e w1 ⟨rfl, hb⟩
    obtain ⟨bc, bf⟩ := bcell hb
    have hz1 := hb.size
    simp at hz1
    have HB := Lib.hid hb
    clear hb
    have lt1 : w.heap.size < w1.heap.size := by omega
    have lt2 : w.heap.size + 1 < w1.heap.size := by omega
    have g0 : w1.cell? ⟨w.heap.size, 0, none⟩ = some (.int .i64 me) := by rw [bc _ _ (by simp <;> omega)]; go_simp
    have f0 : w1.frozen? ⟨w.heap.size, 0, none⟩ = false := by rw [bf _ _ (by simp <;> omega)]; go_simp
    have g1 : w1.cell? ⟨w.heap.size, 1, none⟩ = some (.int .i64 rev) := by rw [bc _ _ (by simp <;> omega)]; go_simp
    have f1 : w1.frozen? ⟨w.heap.size, 1, none⟩ = false := by rw [bf _ _ (by simp <;> omega)]; go_simp
    have g2 : w1.cell? ⟨w.heap.size, 2, none⟩ = some (.int .i64 cr) := by rw [bc _ _ (by simp <;> omega)]; go_simp
    have f2 : w1.frozen? ⟨w.heap.size, 2, none⟩ = false := by rw [bf _ _ (by simp <;> omega)]; go_simp
    have g3 : w1.cell? ⟨w.heap.size, 3, none⟩ = some (.int .i64 0) := by rw [bc _ _ (by simp <;> omega)]; go_simp
    have f3 : w1.frozen? ⟨w.heap.size, 3, none⟩ = false := by rw [bf _ _ (by simp <;> omega)]; go_simp
    have g4 : w1.cell? ⟨w.heap.size, 4, none⟩ = some (.int .u64 0) := by rw [bc _ _ (by simp <;> omega)]; go_simp
    have f4 : w1.frozen? ⟨w.heap.size, 4, none⟩ = false := by rw [bf _ _ (by simp <;> omega)]; go_simp
    have g5 : w1.cell? ⟨w.heap.size, 5, none⟩ = some (.int .i64 bad) := by rw [bc _ _ (by simp <;> omega)]; go_simp
    have f5 : w1.frozen? ⟨w.heap.size, 5, none⟩ = false := by rw [bf _ _ (by simp <;> omega)]; go_simp
    have g6 : w1.cell? ⟨w.heap.size, 6, none⟩ = some (.int .i64 0) := by rw [bc _ _ (by simp <;> omega)]; go_simp
    have f6 : w1.frozen? ⟨w.heap.size, 6, none⟩ = false := by rw [bf _ _ (by simp <;> omega)]; go_simp
    have r0 : w1.cell? ⟨w.heap.size + 1, 0, none⟩ = some (.int .i64 0) := by rw [bc _ _ (by simp <;> omega)]; go_simp
    have s0 : w1.frozen? ⟨w.heap.size + 1, 0, none⟩ = false := by rw [bf _ _ (by simp <;> omega)]; go_simp
    have r1 : w1.cell? ⟨w.heap.size + 1, 1, none⟩ = some (.int .i64 0) := by rw [bc _ _ (by simp <;> omega)]; go_simp
    have s1 : w1.frozen? ⟨w.heap.size + 1, 1, none⟩ = false := by rw [bf _ _ (by simp <;> omega)]; go_simp
    have r2 : w1.cell? ⟨w.heap.size + 1, 2, none⟩ = some (.int .i64 0) := by rw [bc _ _ (by simp <;> omega)]; go_simp
    have s2 : w1.frozen? ⟨w.heap.size + 1, 2, none⟩ = false := by rw [bf _ _ (by simp <;> omega)]; go_simp
    have r3 : w1.cell? ⟨w.heap.size + 1, 3, none⟩ = some (.int .i64 0) := by rw [bc _ _ (by simp <;> omega)]; go_simp
    have s3 : w1.frozen? ⟨w.heap.size + 1, 3, none⟩ = false := by rw [bf _ _ (by simp <;> omega)]; go_simp
    have r4 : w1.cell? ⟨w.heap.size + 1, 4, none⟩ = some (.int .u64 0) := by rw [bc _ _ (by simp <;> omega)]; go_simp
    have s4 : w1.frozen? ⟨w.heap.size + 1, 4, none⟩ = false := by rw [bf _ _ (by simp <;> omega)]; go_simp
    have r5 : w1.cell? ⟨w.heap.size + 1, 5, none⟩ = some (.int .i64 0) := by rw [bc _ _ (by simp <;> omega)]; go_simp
    have s5 : w1.frozen? ⟨w.heap.size + 1, 5, none⟩ = false := by rw [bf _ _ (by simp <;> omega)]; go_simp
    have r6 : w1.cell? ⟨w.heap.size + 1, 6, none⟩ = some (.int .i64 0) := by rw [bc _ _ (by simp <;> omega)]; go_simp
    have s6 : w1.frozen? ⟨w.heap.size + 1, 6, none⟩ = false := by rw [bf _ _ (by simp <;> omega)]; go_simp
    clear bc bf
    go_wp2
    have hW := below_then' (blw_alloc (blw_alloc (Below.refl _ _) _) _) HB.out
    refine bodyPost_ret (v := .tuple #[.agg (mtA me rev (cr - load) bad 0), .int .i64 load, .int .i64 0]) (by simp [results, Try.results37, go_sem, mtA, g0, r0, g1, r1, g2, r2, g3, r3, g4, r4, g5, r5, g6, r6]) rfl ⟨rfl, ?_⟩
    repeat (first | with_reducible exact hW | refine Below.setCell ?_ (by first | exact Nat.le_refl _ | exact Nat.le_succ _) _)
theorem walk (x : Nw) (cs : List Value) (load : Int) (w : World) (hx : cs = x.cs ∧ x.ok) (wl : (Lit.int .i64 load).wf = true) :
    Calls Try.prog 13 #[.agg cs.toArray, .int .i64 load] w fun e w' => e = .returned (.bool true) ∧ Below w.heap.size w w' := by
  obtain ⟨rfl, h0, h1, h2, h3⟩ := hx
  obtain ⟨k0, k1⟩ := i64_bound wl
  clear wl
  show Calls Try.prog 13 #[.agg #[.int .i64 x.a, .int .i64 x.b, .int .i64 x.c, .int .i64 x.d], .int .i64 load] w _
  obtain ⟨a0, a1⟩ := pk_bound x.a 50 (by omega)
  obtain ⟨b0, b1⟩ := pk_bound x.b 16 (by omega)
  obtain ⟨c0, c1⟩ := pk_bound x.c 100000000 (by omega)
  obtain ⟨d0, d1⟩ := pk_bound x.d 5 (by omega)
  obtain ⟨l0, l1⟩ := pk_bound load 1001 (by omega)
  have hpl := fun w => picked_any load 1001 w k0 k1 (by omega)
  have hnm := fun w => newMeter_any x.a x.b x.c x.d w h0 h1 h2 h3
  have hok : MtOk (pk x.a 50) (pk x.b 16) (pk x.c 100000000) (pk x.d 5) 0 := ⟨⟨a0, a1⟩, ⟨b0, by omega⟩, ⟨c0, by omega⟩, ⟨d0, d1⟩, by omega, by omega⟩
  generalize pk x.a 50 = me at *
  generalize pk x.b 16 = rev at *
  generalize pk x.c 100000000 = cr at *
  generalize pk x.d 5 = bad at *
  generalize pk load 1001 = ld at *
  obtain ⟨bu, hbu⟩ : ∃ bu, bu = (if cr < ld then cr else ld) := ⟨_, rfl⟩
  have ht := fun w => tick_any me rev cr bad ld w hok l0 (by omega) bu hbu
  have u0 : 0 ≤ bu ∧ bu ≤ ld ∧ bu ≤ cr := by rw [hbu]; split <;> omega
  obtain ⟨u0, u1, u2⟩ := u0
  have hor : (bu == ld || bu == cr) = true := by
    rw [hbu]; split <;> simp
  have HT := Lib.hid ht
  have HNM := Lib.hid hnm
  have HPL := Lib.hid hpl
  have HBU := Lib.hid hbu
  have HOR := Lib.hid hor
  unfold mtA at HT HNM
  clear ht hnm hpl hbu hor h0 h1 h2 h3 hok
  go_enter Try.func13, Try.ntmps13
  go_wp2_with (fail)
  go_at_call 36
  refine (HNM.out _).mono ?_
  rintro e w1 ⟨rfl, hb⟩
  obtain ⟨bc, bf⟩ := bcell hb
  have hz1 := hb.size
  simp at hz1
  have HB := Lib.hid hb
  clear hb bc bf
  go_wp2_with (fail)
  go_at_call 15
  refine (HPL.out _).mono ?_
  rintro e w' ⟨rfl, rfl⟩
  go_wp2_with (fail)
  go_at_call 37
  refine (HT.out _).mono ?_
  rintro e w2 ⟨rfl, hb⟩
  obtain ⟨bc, bf⟩ := bcell hb
  have hz2 := hb.size
  simp at hz2
  have HB2 := Lib.hid hb
  clear hb
  have lt2 : w1.heap.size < w2.heap.size := by omega
  have g0 : w2.cell? ⟨w1.heap.size, 0, none⟩ = some (.int .i64 me) := by rw [bc _ _ (by simp <;> omega)]; go_simp
  have g1 : w2.cell? ⟨w1.heap.size, 1, none⟩ = some (.int .i64 rev) := by rw [bc _ _ (by simp <;> omega)]; go_simp
  have g2 : w2.cell? ⟨w1.heap.size, 2, none⟩ = some (.int .i64 cr) := by rw [bc _ _ (by simp <;> omega)]; go_simp
  have g3 : w2.cell? ⟨w1.heap.size, 3, none⟩ = some (.int .i64 0) := by rw [bc _ _ (by simp <;> omega)]; go_simp
  have g4 : w2.cell? ⟨w1.heap.size, 4, none⟩ = some (.int .u64 0) := by rw [bc _ _ (by simp <;> omega)]; go_simp
  have g5 : w2.cell? ⟨w1.heap.size, 5, none⟩ = some (.int .i64 bad) := by rw [bc _ _ (by simp <;> omega)]; go_simp
  have g6 : w2.cell? ⟨w1.heap.size, 6, none⟩ = some (.int .i64 0) := by rw [bc _ _ (by simp <;> omega)]; go_simp
  clear bc bf
  have q1 : decide (cr - bu < 0) = false := decide_eq_false (by omega)
  go_wp2
  all_goals
    go_ret
    have B1 := below_then' (blw_alloc (Below.refl _ _) _) HB.out
    have B2 := below_then' (blw_alloc B1 _) HB2.out
    exact ⟨by first | rfl | exact ret_bool HOR.out, blw_alloc B2 _⟩
end Go.Proofs.Ytjopjlnnmhokfaa.MeterBurns
