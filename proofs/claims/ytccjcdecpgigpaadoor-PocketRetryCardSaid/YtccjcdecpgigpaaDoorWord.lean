/- Contracts of package words: up, Times, Plus. A wide number is three words x0, x1, x2, the least first. -/
import Derived.Test.YtccjcdecpgigpaaDoorBase
import Derived.LoopN
namespace Go.Proofs.YtccjcdecpgigpaaDoor.Word
open Go.RowKit Go.Proofs.YtccjcdecpgigpaaDoor.Base
set_option linter.unusedVariables false
set_option linter.unusedSimpArgs false
set_option maxRecDepth 20000

/-- A word. -/
def wd (x : Int) : Prop := 0 ≤ x ∧ x ≤ 4294967295
theorem mul_bd {x y : Int} (hx : wd x) (hy : wd y) : 0 ≤ x * y ∧ x * y ≤ 18446744065119617025 := by
  obtain ⟨x0, x1⟩ := hx
  obtain ⟨y0, y1⟩ := hy
  refine ⟨Int.mul_nonneg x0 y0, ?_⟩
  have h1 : x * y ≤ 4294967295 * y := Int.mul_le_mul_of_nonneg_right x1 y0
  omega

theorem mul32_any (x y : Int) (w : World) (hx : wd x) (hy : wd y) :
    Calls Tryd.prog 122 #[.int .u32 x, .int .u32 y] w fun e w' => e = .returned (.tuple #[.int .u32 (x * y / 4294967296), .int .u32 (x * y % 4294967296)]) ∧ w = w' := by
  obtain ⟨p0, p1⟩ := mul_bd hx hy
  obtain ⟨x0, x1⟩ := hx
  obtain ⟨y0, y1⟩ := hy
  go_enter Tryd.func122, Tryd.ntmps122
  go_wp2
  go_ret2
  exact ⟨rfl, rfl⟩
theorem add32_any (x y c : Int) (w : World) (hx : wd x) (hy : wd y) (hc : wd c) :
    Calls Tryd.prog 123 #[.int .u32 x, .int .u32 y, .int .u32 c] w fun e w' => e = .returned (.tuple #[.int .u32 ((x + y + c) % 4294967296), .int .u32 ((x + y + c) / 4294967296)]) ∧ w = w' := by
  obtain ⟨x0, x1⟩ := hx
  obtain ⟨y0, y1⟩ := hy
  obtain ⟨c0, c1⟩ := hc
  go_enter Tryd.func123, Tryd.ntmps123
  go_wp2
  go_ret2
  exact ⟨rfl, rfl⟩

/-- One word of a product: word times m, and what was carried. -/
theorem times_step (x c m : Int) (b o : Nat) (w : World) (hx : wd x) (hc : wd c) (hm : wd m) (hcell : w.cell? ⟨b, o, none⟩ = some (.int .u32 m)) :
    Calls Tryd.prog 121 #[.int .u32 x, .int .u32 c, .pointer (some ⟨b, o, none⟩)] w fun e w' => e = .returned (.tuple #[.int .u32 ((x * m + c) % 4294967296), .int .u32 ((x * m + c) / 4294967296)]) ∧ w = w' := by
  obtain ⟨p0, p1⟩ := mul_bd hx hm
  have hl : wd (x * m % 4294967296) := by unfold wd; omega
  have h0 : wd 0 := by unfold wd; omega
  obtain ⟨c0, c1⟩ := hc
  have hc : wd c := ⟨c0, c1⟩
  go_enter Tryd.func121, Tryd.ntmps121
  go_wp2_with (first | (go_at_call 122; refine (mul32_any _ _ _ hx hm).mono ?_; rintro e w' ⟨rfl, rfl⟩) | (go_at_call 123; refine (add32_any _ _ _ _ hl hc h0).mono ?_; rintro e w' ⟨rfl, rfl⟩))
  go_ret2
  refine ⟨?_, rfl⟩
  have E : ∀ a b a' b' : Int, a = a' → b = b' → Ending.returned (.tuple #[.int .u32 a, .int .u32 b]) = .returned (.tuple #[.int .u32 a', .int .u32 b']) := fun _ _ _ _ h1 h2 => by rw [h1, h2]
  exact E _ _ _ _ (by omega) (by omega)

/-- up, with the closure of Times. -/
theorem up_times (x0 x1 x2 c m : Int) (b o : Nat) (w : World) (h0 : wd x0) (h1 : wd x1) (h2 : wd x2) (hc : wd c) (hm : wd m) (hcell : w.cell? ⟨b, o, none⟩ = some (.int .u32 m)) (hb : b < w.heap.size) :
    Calls Tryd.prog 120 #[.agg #[.int .u32 x0, .int .u32 x1, .int .u32 x2], .int .u32 c, .func (.func 121) #[] #[.pointer (some ⟨b, o, none⟩)]] w fun e w' =>
      e = .returned (.tuple #[.agg #[.int .u32 ((x0 * m + c) % 4294967296), .int .u32 ((x1 * m + (x0 * m + c) / 4294967296) % 4294967296), .int .u32 ((x2 * m + (x1 * m + (x0 * m + c) / 4294967296) / 4294967296) % 4294967296)], .int .u32 ((x2 * m + (x1 * m + (x0 * m + c) / 4294967296) / 4294967296) / 4294967296)]) ∧ Below w.heap.size w w' := by
  have hc1 : wd ((x0 * m + c) / 4294967296) := by have := mul_bd h0 hm; unfold wd at *; omega
  have hc2 : wd ((x1 * m + (x0 * m + c) / 4294967296) / 4294967296) := by have := mul_bd h1 hm; unfold wd at *; omega
  have hbne : b ≠ w.heap.size := by omega
  have hbne1 : b ≠ w.heap.size + 1 := by omega
  go_enter Tryd.func120, Tryd.ntmps120
  go_wp2_with fail
  refine wp_loop_rounds 4 ?_
  rw [rounds_succ]
  go_wp2_with fail
  refine (times_step x0 c m b o _ h0 hc hm (by go_simp)).mono ?_
  rintro e w' ⟨rfl, rfl⟩
  go_wp2_with fail
  rw [rounds_succ]
  go_wp2_with fail
  refine (times_step x1 _ m b o _ h1 hc1 hm (by go_simp)).mono ?_
  rintro e w' ⟨rfl, rfl⟩
  go_wp2_with fail
  rw [rounds_succ]
  go_wp2_with fail
  refine (times_step x2 _ m b o _ h2 hc2 hm (by go_simp)).mono ?_
  rintro e w' ⟨rfl, rfl⟩
  go_wp2_with fail
  rw [rounds_succ]
  go_wp2_with fail
  refine bodyPost_ret (v := .tuple #[.agg #[.int .u32 ((x0 * m + c) % 4294967296), .int .u32 ((x1 * m + (x0 * m + c) / 4294967296) % 4294967296), .int .u32 ((x2 * m + (x1 * m + (x0 * m + c) / 4294967296) / 4294967296) % 4294967296)], .int .u32 ((x2 * m + (x1 * m + (x0 * m + c) / 4294967296) / 4294967296) / 4294967296)]) (by simp [results, Tryd.results120, go_sem]) rfl ⟨rfl, ?_⟩
  exact ((Below.refl _ _).alloc (Nat.le_refl _) _).alloc (by simp) _

/-! ### wide numbers -/
structure W3 where
  a : Int
  b : Int
  c : Int
def W3.ok (x : W3) : Prop := wd x.a ∧ wd x.b ∧ wd x.c
def W3.cs (x : W3) : List Value := [.int .u32 x.a, .int .u32 x.b, .int .u32 x.c]
def W3.num (x : W3) : Int := x.a + x.b * 4294967296 + x.c * 18446744073709551616
def timesW (x : W3) (m : Int) : W3 := ⟨(x.a * m + 0) % 4294967296, (x.b * m + (x.a * m + 0) / 4294967296) % 4294967296, (x.c * m + (x.b * m + (x.a * m + 0) / 4294967296) / 4294967296) % 4294967296⟩
def timesC (x : W3) (m : Int) : Int := (x.c * m + (x.b * m + (x.a * m + 0) / 4294967296) / 4294967296) / 4294967296
theorem timesW_ok (x : W3) (m : Int) : (timesW x m).ok := by
  unfold timesW W3.ok wd
  dsimp only
  omega
theorem timesC_wd (x : W3) (m : Int) (hx : x.ok) (hm : wd m) : wd (timesC x m) := by
  have h0 := mul_bd hx.1 hm
  have h1 := mul_bd hx.2.1 hm
  have h2 := mul_bd hx.2.2 hm
  unfold timesC wd
  omega
theorem times_num (x : W3) (m : Int) : (timesW x m).num + timesC x m * 79228162514264337593543950336 = x.num * m := by
  unfold timesW timesC W3.num
  dsimp only
  have e : (x.a + x.b * 4294967296 + x.c * 18446744073709551616) * m = x.a * m + (x.b * m) * 4294967296 + (x.c * m) * 18446744073709551616 := by
    rw [Int.add_mul, Int.add_mul, Int.mul_right_comm, Int.mul_right_comm x.c]
  rw [e]
  generalize x.a * m = p
  generalize x.b * m = q
  generalize x.c * m = r
  omega
theorem num_inj {x y : W3} (hx : x.ok) (hy : y.ok) (h : x.num = y.num) : x = y := by
  unfold W3.num at h
  unfold W3.ok wd at hx hy
  cases x; cases y
  simp only at *
  have e1 : _ := hx
  simp only [W3.mk.injEq]
  omega
theorem num_bound {x : W3} (hx : x.ok) : 0 ≤ x.num ∧ x.num < 79228162514264337593543950336 := by
  unfold W3.num
  unfold W3.ok wd at hx
  omega
theorem times_any (x : W3) (m : Int) (w : World) (hx : x.ok) (hm : wd m) :
    Calls Tryd.prog 80 #[.agg #[.int .u32 x.a, .int .u32 x.b, .int .u32 x.c], .int .u32 m] w fun e w' =>
      e = .returned (.tuple #[.agg #[.int .u32 (timesW x m).a, .int .u32 (timesW x m).b, .int .u32 (timesW x m).c], .int .u32 (timesC x m)]) ∧ Below w.heap.size w w' := by
  obtain ⟨h0, h1, h2⟩ := hx
  have hz : wd 0 := by unfold wd; omega
  go_enter Tryd.func80, Tryd.ntmps80
  go_wp2_with fail
  refine (up_times x.a x.b x.c 0 m _ _ _ h0 h1 h2 hz hm (by go_simp) (by simp)).mono ?_
  rintro e w1 ⟨rfl, hb⟩
  obtain ⟨bc, bf⟩ := bcell hb
  have HB := Lib.hid hb
  have hz1 := hb.size
  simp at hz1
  have g0 : w1.cell? ⟨w.heap.size + 1 + 1, 0, none⟩ = some (.int .u32 0) := by rw [bc _ _ (by simp)]; go_simp
  have g1 : w1.cell? ⟨w.heap.size + 1 + 1, 1, none⟩ = some (.int .u32 0) := by rw [bc _ _ (by simp)]; go_simp
  have g2 : w1.cell? ⟨w.heap.size + 1 + 1, 2, none⟩ = some (.int .u32 0) := by rw [bc _ _ (by simp)]; go_simp
  have f0 : w1.frozen? ⟨w.heap.size + 1 + 1, 0, none⟩ = false := by rw [bf _ _ (by simp)]; go_simp
  have f1 : w1.frozen? ⟨w.heap.size + 1 + 1, 1, none⟩ = false := by rw [bf _ _ (by simp)]; go_simp
  have f2 : w1.frozen? ⟨w.heap.size + 1 + 1, 2, none⟩ = false := by rw [bf _ _ (by simp)]; go_simp
  clear hb bc bf
  go_wp2_with fail
  refine bodyPost_ret (v := .tuple #[.agg #[.int .u32 (timesW x m).a, .int .u32 (timesW x m).b, .int .u32 (timesW x m).c], .int .u32 (timesC x m)]) (by simp [results, Tryd.results80, go_sem, timesW, timesC, g0, g1, g2]) rfl ⟨rfl, ?_⟩
  have hW := below_then' (blw_alloc (blw_alloc (blw_alloc (Below.refl _ _) _) _) _) HB.out
  exact ((hW.setCell (by simp; omega) _).setCell (by simp; omega) _).setCell (by simp; omega) _
/-! ### '==' of two wide numbers -/
theorem equalIn_w3 (d : Nat) (w : World) (x0 x1 x2 y0 y1 y2 : Int) :
    (Op.equalIn (d + 2) 95 (.agg #[.int .u32 x0, .int .u32 x1, .int .u32 x2]) (.agg #[.int .u32 y0, .int .u32 y1, .int .u32 y2])).run Tryd.prog w = .ok (x0 == y0 && (x1 == y1 && x2 == y2)) w := by
  have e1 : ∀ w a b, (Op.equalIn (d + 1) 93 (.int .u32 a) (.int .u32 b)).run Tryd.prog w = .ok (a == b) w := fun w a b => run_equalIn_int w d _ _ _ a b Tryd.underlying93
  rw [Op.equalIn]
  simp only [Sem.run_bind, run_underlying Tryd.underlying95, Result.andThen_ok]
  have hA : ∀ w, (isAgg 93).run Tryd.prog w = .ok false w := fun w => by simp [isAgg, run_underlying Tryd.underlying93]
  simp [go_sem, part]
  rw [show List.range' 0 3 = [0, 1, 2] from rfl]
  simp [go_sem, hA, e1]
  by_cases h0 : x0 = y0
  · by_cases h1 : x1 = y1
    · by_cases h2 : x2 = y2
      · simp [h0, h1, h2, go_sem, hA, e1]
      · simp [h0, h1, h2, go_sem, hA, e1]
    · simp [h0, h1, go_sem, hA, e1]
  · simp [h0, go_sem, hA, e1]
theorem eq_w3 (w : World) (x0 x1 x2 y0 y1 y2 : Int) :
    (Op.equalIn 10000 95 (.agg #[.int .u32 x0, .int .u32 x1, .int .u32 x2]) (.agg #[.int .u32 y0, .int .u32 y1, .int .u32 y2])).run Tryd.prog w = .ok (x0 == y0 && (x1 == y1 && x2 == y2)) w := equalIn_w3 9998 w x0 x1 x2 y0 y1 y2
end Go.Proofs.YtccjcdecpgigpaaDoor.Word
