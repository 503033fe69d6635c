/- Contracts of words.Cmp: cmp.Compare at uint32, slices.Reverse and slices.Compare at three cells. -/
import Derived.Test.YtjlihpbnhojdgaaOver
import Derived.Test.YtjlihpbnhojdgaaCs
import Derived.Shelf.RegionOpenPlain
import Derived.Sort.WalkB12
import Derived.Laws.StructEq
import Derived.ChangeKeysEq
namespace Go.Proofs.Ytjlihpbnhojdgaa.Word
open Go.RowKit Go.Proofs.Ytjlihpbnhojdgaa.Base
set_option linter.unusedVariables false
set_option linter.unusedSimpArgs false
set_option maxRecDepth 20000

def sgn (x y : Int) : Int := if x < y then -1 else if y < x then 1 else 0
theorem nan_any (x : Int) (w : World) : Calls Try.prog 74 #[.int .u32 x] w fun e w' => e = .returned (.bool false) ∧ w = w' := by
  have h : (x != x) = false := by simp
  go_enter Try.func74, Try.ntmps74
  go_wp2_with fail
  go_ret
  exact ⟨rfl, rfl⟩
theorem compare_any (x y : Int) (w : World) : Calls Try.prog 67 #[.int .u32 x, .int .u32 y] w fun e w' => e = .returned (.int .i64 (sgn x y)) ∧ w = w' := by
  unfold sgn
  by_cases h1 : x < y
  · rw [if_pos h1]
    go_enter Try.func67, Try.ntmps67
    go_wp2_with fail
    refine (nan_any x _).mono ?_
    rintro e w' ⟨rfl, rfl⟩
    go_wp2_with fail
    refine (nan_any y _).mono ?_
    rintro e w' ⟨rfl, rfl⟩
    go_wp2_with fail
    go_ret
    exact ⟨rfl, rfl⟩
  · rw [if_neg h1]
    by_cases h2 : y < x
    · rw [if_pos h2]
      go_enter Try.func67, Try.ntmps67
      go_wp2_with fail
      refine (nan_any x _).mono ?_
      rintro e w' ⟨rfl, rfl⟩
      go_wp2_with fail
      refine (nan_any y _).mono ?_
      rintro e w' ⟨rfl, rfl⟩
      go_wp2_with fail
      go_ret
      exact ⟨rfl, rfl⟩
    · rw [if_neg h2]
      go_enter Try.func67, Try.ntmps67
      go_wp2_with fail
      refine (nan_any x _).mono ?_
      rintro e w' ⟨rfl, rfl⟩
      go_wp2_with fail
      refine (nan_any y _).mono ?_
      rintro e w' ⟨rfl, rfl⟩
      go_wp2_with fail
      go_ret
      exact ⟨rfl, rfl⟩
theorem reverse3 (p : Nat) (v0 v1 v2 : Int) (w : World) (hp : Cs w p [.int .u32 v0, .int .u32 v1, .int .u32 v2]) :
    Calls Try.prog 46 #[.slice (some ⟨p, 0, none⟩) 3 3] w fun e w' => e = .returned (.tuple #[]) ∧ Cs w' p [.int .u32 v2, .int .u32 v1, .int .u32 v0] ∧ (∀ q cs, q ≠ p → Cs w q cs → Cs w' q cs) ∧ ∀ B, B ≤ p → Below B w w' := by
  have HP := Lib.hid hp
  have lp := hp.1
  have x0 := (hp.at 0 rfl).1
  have x1 := (hp.at 1 rfl).1
  have x2 := (hp.at 2 rfl).1
  have y0 := (hp.at 0 rfl).2
  have y1 := (hp.at 1 rfl).2
  have y2 := (hp.at 2 rfl).2
  clear hp
  have mixed : Try.prog.follows .mixedOrders = true := by kernel_rfl
  go_enter Try.func46, Try.ntmps46
  go_wp2_with fail
  refine wp_loop_rounds 2 ?_
  rw [rounds_succ]
  go_wp2_with fail
  go_region_o
  all_goals go_wp2_with fail
  all_goals rw [rounds_succ]
  all_goals go_wp2_with fail
  go_end0
  refine ⟨rfl, ?_, fun q cs hq h => ?_, fun B hB => ?_⟩
  · refine Cs.drew ?_
    apply Cs.put (vs := [.int .u32 v2, .int .u32 v1, .int .u32 v2])
    · apply Cs.put (vs := [.int .u32 v0, .int .u32 v1, .int .u32 v2])
      · exact HP.out
      · simp
      · rfl
    · simp
    · rfl
  · exact ((h.other (fun e => hq e.symm) _).other (fun e => hq e.symm) _).drew
  · exact (((Below.refl _ _).setCell hB _).setCell hB _).drew
def cmp3 (a0 a1 a2 b0 b1 b2 : Int) : Int := if sgn a0 b0 = 0 then (if sgn a1 b1 = 0 then sgn a2 b2 else sgn a1 b1) else sgn a0 b0
set_option maxHeartbeats 1000000 in
theorem compare3 (p q : Nat) (a0 a1 a2 b0 b1 b2 : Int) (w : World) (hp : Cs w p [.int .u32 a0, .int .u32 a1, .int .u32 a2]) (hq : Cs w q [.int .u32 b0, .int .u32 b1, .int .u32 b2]) :
    Calls Try.prog 47 #[.slice (some ⟨p, 0, none⟩) 3 3, .slice (some ⟨q, 0, none⟩) 3 3] w fun e w' => e = .returned (.int .i64 (cmp3 a0 a1 a2 b0 b1 b2)) ∧ w = w' := by
  have x0 := (hp.at 0 rfl).1
  have x1 := (hp.at 1 rfl).1
  have x2 := (hp.at 2 rfl).1
  have z0 := (hq.at 0 rfl).1
  have z1 := (hq.at 1 rfl).1
  have z2 := (hq.at 2 rfl).1
  have lp := hp.1
  have lq := hq.1
  clear hp hq
  have C0 := Lib.hid (fun W => compare_any a0 b0 W)
  have C1 := Lib.hid (fun W => compare_any a1 b1 W)
  have C2 := Lib.hid (fun W => compare_any a2 b2 W)
  unfold cmp3
  generalize sgn a0 b0 = s0 at *
  generalize sgn a1 b1 = s1 at *
  generalize sgn a2 b2 = s2 at *
  obtain ⟨r, hr⟩ : ∃ r, r = (if s0 = 0 then (if s1 = 0 then s2 else s1) else s0) := ⟨_, rfl⟩
  rw [← hr]
  have HR := Lib.hid hr
  clear hr
  go_enter Try.func47, Try.ntmps47
  go_wp2_with fail
  refine wp_loop_rounds 4 ?_
  rw [rounds_succ]
  go_wp2_with fail
  refine (C0.out _).mono ?_
  rintro e w' ⟨rfl, rfl⟩
  by_cases h0 : s0 = 0
  · have k0 : (s0 != 0) = false := by simp [h0]
    go_wp2_with fail
    rw [rounds_succ]
    go_wp2_with fail
    refine (C1.out _).mono ?_
    rintro e w' ⟨rfl, rfl⟩
    by_cases h1 : s1 = 0
    · have k1 : (s1 != 0) = false := by simp [h1]
      go_wp2_with fail
      rw [rounds_succ]
      go_wp2_with fail
      refine (C2.out _).mono ?_
      rintro e w' ⟨rfl, rfl⟩
      by_cases h2 : s2 = 0
      · have k2 : (s2 != 0) = false := by simp [h2]
        subst h2
        go_wp2_with fail
        rw [rounds_succ]
        go_wp2_with fail
        go_ret
        exact ⟨by (rw [HR.out, if_pos h0, if_pos h1]; rfl), rfl⟩
      · have k2 : (s2 != 0) = true := by simp [h2]
        go_wp2_with fail
        go_ret
        exact ⟨by (rw [HR.out, if_pos h0, if_pos h1]; rfl), rfl⟩
    · have k1 : (s1 != 0) = true := by simp [h1]
      go_wp2_with fail
      go_ret
      exact ⟨by (rw [HR.out, if_pos h0, if_neg h1]; rfl), rfl⟩
  · have k0 : (s0 != 0) = true := by simp [h0]
    go_wp2_with fail
    go_ret
    exact ⟨by (rw [HR.out, if_neg h0]; rfl), rfl⟩
open Op in
@[go_sem] theorem eql_wide (a0 a1 a2 b0 b1 b2 : Int) (w : World) : (Op.equalIn 10000 47 (.agg #[.int .u32 a0, .int .u32 a1, .int .u32 a2]) (.agg #[.int .u32 b0, .int .u32 b1, .int .u32 b2])).run Try.prog w = .ok (a0 == b0 && (a1 == b1 && a2 == b2)) w := by
  have hu : (Try.prog).underlying 47 = some (.array 3 45) := by kernel_rfl
  obtain ⟨i, hi⟩ : ∃ i, (Try.prog).info? 45 = some i := ⟨_, rfl⟩
  have he : (Try.prog).underlying 45 = some (.int .u32) := by kernel_rfl
  have hc : (Try.prog).cellsOf 45 = 1 := by kernel_rfl
  rw [show (10000 : Nat) = 9998 + 1 + 1 from rfl, run_equalIn_array w _ _ _ hu hi, hc]
  simp [List.range, List.range.loop, Op.eqItems, part, isAgg, run_underlying he, run_equalIn_int w _ _ _ _ _ _ he, Sem.run_bind]
  by_cases h0 : a0 = b0 <;> by_cases h1 : a1 = b1 <;> by_cases h2 : a2 = b2 <;> simp [h0, h1, h2]
theorem sgn_self (a : Int) : sgn a a = 0 := by unfold sgn; rw [if_neg (by omega), if_neg (by omega)]
set_option maxHeartbeats 1000000 in
theorem cmp_any (x y : W3) (w : World) : Calls Try.prog 23 #[.agg #[.int .u32 x.a, .int .u32 x.b, .int .u32 x.c], .agg #[.int .u32 y.a, .int .u32 y.b, .int .u32 y.c]] w fun e w' => e = .returned (.int .i64 (cmp3 x.c x.b x.a y.c y.b y.a)) ∧ Below w.heap.size w w' := by
  obtain ⟨a0, a1, a2⟩ := x
  obtain ⟨b0, b1, b2⟩ := y
  simp only
  obtain ⟨r, hr⟩ : ∃ r, r = cmp3 a2 a1 a0 b2 b1 b0 := ⟨_, rfl⟩
  rw [← hr]
  have HR := Lib.hid hr
  clear hr
  by_cases he : (a0 == b0 && (a1 == b1 && a2 == b2)) = true
  · have h0 : r = 0 := by
      simp only [Bool.and_eq_true, beq_iff_eq] at he
      obtain ⟨rfl, rfl, rfl⟩ := he
      rw [HR.out]
      unfold cmp3
      simp only [sgn_self, if_true]
    subst h0
    go_enter Try.func23, Try.ntmps23
    go_wp2_with fail
    go_ret
    exact ⟨rfl, Base.blw_alloc (Base.blw_alloc (Below.refl _ _) _) _⟩
  · have he' : (a0 == b0 && (a1 == b1 && a2 == b2)) = false := by
      cases h : (a0 == b0 && (a1 == b1 && a2 == b2))
      · rfl
      · exact absurd h he
    clear he
    go_enter Try.func23, Try.ntmps23
    go_upto_region 3 with fail
    go_cut [5, 6] (fun s5 s6 wx => s5 = .slice (some ⟨w.heap.size, 0, none⟩) 3 3 ∧ s6 = .slice (some ⟨w.heap.size + 1, 0, none⟩) 3 3 ∧ Cs wx w.heap.size [.int .u32 a0, .int .u32 a1, .int .u32 a2] ∧ Cs wx (w.heap.size + 1) [.int .u32 b0, .int .u32 b1, .int .u32 b2] ∧ Below w.heap.size w wx)
    case first =>
      go_region
      go_wp2_with fail
      go_meet
      exact ⟨rfl, rfl, Cs.drew (Cs.alloc (Cs.new rfl) _), Cs.drew (Cs.new (by simp)), (Base.blw_alloc (Base.blw_alloc (Below.refl _ _) _) _).drew⟩
    case rest =>
      obtain ⟨rfl, rfl, hx, hy, hb⟩ := hcut
      have HX := Lib.hid hx
      have HY := Lib.hid hy
      have HB := Lib.hid hb
      clear hx hy hb
      obtain ⟨n, hn⟩ : ∃ n, n = w.heap.size := ⟨_, rfl⟩
      rw [← hn] at HX HY HB ⊢
      have HN := Lib.hid hn
      clear hn
      go_wp2_with fail
      go_at_call 46
      refine (reverse3 _ _ _ _ _ HX.out).mono ?_
      rintro e w1 ⟨rfl, h1, h2, h3⟩
      have HX1 := Lib.hid h1
      have HY1 := Lib.hid (h2 _ _ (by omega) HY.out)
      have HB1 := Lib.hid (HB.out.trans (h3 n (Nat.le_refl _)))
      clear h1 h2 h3
      go_wp2_with fail
      go_at_call 46
      refine (reverse3 _ _ _ _ _ HY1.out).mono ?_
      rintro e w2 ⟨rfl, h1, h2, h3⟩
      have HY2 := Lib.hid h1
      have HX2 := Lib.hid (h2 _ _ (by omega) HX1.out)
      have HB2 := Lib.hid (HB1.out.trans (h3 n (by omega)))
      clear h1 h2 h3
      go_wp2_with fail
      go_at_call 47
      refine (compare3 _ _ _ _ _ _ _ _ _ HX2.out HY2.out).mono ?_
      rintro e w3 ⟨rfl, rfl⟩
      go_wp2_with fail
      go_ret
      exact ⟨by rw [HR.out]; rfl, by rw [← HN.out]; exact HB2.out⟩
end Go.Proofs.Ytjlihpbnhojdgaa.Word
