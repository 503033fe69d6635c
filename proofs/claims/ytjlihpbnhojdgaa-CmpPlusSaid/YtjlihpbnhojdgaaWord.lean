/- Contracts of package words: up, Times, Plus. A wide number is three words x0, x1, x2, the least first. -/
import Derived.Test.YtjlihpbnhojdgaaBase
import Derived.LoopN
namespace Go.Proofs.Ytjlihpbnhojdgaa.Word
open Go.RowKit Go.Proofs.Ytjlihpbnhojdgaa.Base
set_option linter.unusedVariables false
set_option linter.unusedSimpArgs false
set_option maxRecDepth 20000

/-- A word. -/
def wd (x : Int) : Prop := 0 ≤ x ∧ x ≤ 4294967295
theorem mul_bd {x y : Int} (hx : wd x) (hy : wd y) : 0 ≤ x * y ∧ x * y ≤ 18446744065119617025 := by
  obtain ⟨x0, x1⟩ := hx
  obtain ⟨y0, y1⟩ := hy
  refine ⟨Int.mul_nonneg x0 y0, ?_⟩
  have h1 : x * y ≤ 4294967295 * y := Int.mul_le_mul_of_nonneg_right x1 y0
  omega










theorem add32_any (x y c : Int) (w : World) (hx : wd x) (hy : wd y) (hc : wd c) :
    Calls Try.prog 45 #[.int .u32 x, .int .u32 y, .int .u32 c] w fun e w' => e = .returned (.tuple #[.int .u32 ((x + y + c) % 4294967296), .int .u32 ((x + y + c) / 4294967296)]) ∧ w = w' := by
  obtain ⟨x0, x1⟩ := hx
  obtain ⟨y0, y1⟩ := hy
  obtain ⟨c0, c1⟩ := hc
  go_enter Try.func45, Try.ntmps45
  go_wp2
  go_ret2
  exact ⟨rfl, rfl⟩















































/-! ### wide numbers -/
structure W3 where
  a : Int
  b : Int
  c : Int
def W3.ok (x : W3) : Prop := wd x.a ∧ wd x.b ∧ wd x.c
def W3.cs (x : W3) : List Value := [.int .u32 x.a, .int .u32 x.b, .int .u32 x.c]
def W3.num (x : W3) : Int := x.a + x.b * 4294967296 + x.c * 18446744073709551616
def timesW (x : W3) (m : Int) : W3 := ⟨(x.a * m + 0) % 4294967296, (x.b * m + (x.a * m + 0) / 4294967296) % 4294967296, (x.c * m + (x.b * m + (x.a * m + 0) / 4294967296) / 4294967296) % 4294967296⟩
def timesC (x : W3) (m : Int) : Int := (x.c * m + (x.b * m + (x.a * m + 0) / 4294967296) / 4294967296) / 4294967296
theorem timesW_ok (x : W3) (m : Int) : (timesW x m).ok := by
  unfold timesW W3.ok wd
  dsimp only
  omega
theorem timesC_wd (x : W3) (m : Int) (hx : x.ok) (hm : wd m) : wd (timesC x m) := by
  have h0 := mul_bd hx.1 hm
  have h1 := mul_bd hx.2.1 hm
  have h2 := mul_bd hx.2.2 hm
  unfold timesC wd
  omega
theorem times_num (x : W3) (m : Int) : (timesW x m).num + timesC x m * 79228162514264337593543950336 = x.num * m := by
  unfold timesW timesC W3.num
  dsimp only
  have e : (x.a + x.b * 4294967296 + x.c * 18446744073709551616) * m = x.a * m + (x.b * m) * 4294967296 + (x.c * m) * 18446744073709551616 := by
    rw [Int.add_mul, Int.add_mul, Int.mul_right_comm, Int.mul_right_comm x.c]
  rw [e]
  generalize x.a * m = p
  generalize x.b * m = q
  generalize x.c * m = r
  omega
theorem num_inj {x y : W3} (hx : x.ok) (hy : y.ok) (h : x.num = y.num) : x = y := by
  unfold W3.num at h
  unfold W3.ok wd at hx hy
  cases x; cases y
  simp only at *
  have e1 : _ := hx
  simp only [W3.mk.injEq]
  omega
theorem num_bound {x : W3} (hx : x.ok) : 0 ≤ x.num ∧ x.num < 79228162514264337593543950336 := by
  unfold W3.num
  unfold W3.ok wd at hx
  omega
























/-! ### '==' of two wide numbers -/
theorem equalIn_w3 (d : Nat) (w : World) (x0 x1 x2 y0 y1 y2 : Int) :
    (Op.equalIn (d + 2) 47 (.agg #[.int .u32 x0, .int .u32 x1, .int .u32 x2]) (.agg #[.int .u32 y0, .int .u32 y1, .int .u32 y2])).run Try.prog w = .ok (x0 == y0 && (x1 == y1 && x2 == y2)) w := by
  have e1 : ∀ w a b, (Op.equalIn (d + 1) 45 (.int .u32 a) (.int .u32 b)).run Try.prog w = .ok (a == b) w := fun w a b => run_equalIn_int w d _ _ _ a b Try.underlying45
  rw [Op.equalIn]
  simp only [Sem.run_bind, run_underlying Try.underlying47, Result.andThen_ok]
  have hA : ∀ w, (isAgg 45).run Try.prog w = .ok false w := fun w => by simp [isAgg, run_underlying Try.underlying45]
  simp [go_sem, part]
  rw [show List.range' 0 3 = [0, 1, 2] from rfl]
  simp [go_sem, hA, e1]
  by_cases h0 : x0 = y0
  · by_cases h1 : x1 = y1
    · by_cases h2 : x2 = y2
      · simp [h0, h1, h2, go_sem, hA, e1]
      · simp [h0, h1, h2, go_sem, hA, e1]
    · simp [h0, h1, go_sem, hA, e1]
  · simp [h0, go_sem, hA, e1]
theorem eq_w3 (w : World) (x0 x1 x2 y0 y1 y2 : Int) :
    (Op.equalIn 10000 47 (.agg #[.int .u32 x0, .int .u32 x1, .int .u32 x2]) (.agg #[.int .u32 y0, .int .u32 y1, .int .u32 y2])).run Try.prog w = .ok (x0 == y0 && (x1 == y1 && x2 == y2)) w := equalIn_w3 9998 w x0 x1 x2 y0 y1 y2
end Go.Proofs.Ytjlihpbnhojdgaa.Word
