/- Contracts of words.Over, words.Plus. -/
import Derived.Test.YtccjcdecpgigpaaDoorWord
import Derived.Laws.Bits64b
namespace Go.Proofs.YtccjcdecpgigpaaDoor.Word
open Go.RowKit Go.Proofs.YtccjcdecpgigpaaDoor.Base
set_option linter.unusedVariables false
set_option linter.unusedSimpArgs false
set_option maxRecDepth 20000

theorem or_join (hi lo : Int) (h0 : wd hi) (h1 : wd lo) : bits .or .u64 (hi * 4294967296) lo = hi * 4294967296 + lo := by
  obtain ⟨a0, a1⟩ := h0
  obtain ⟨b0, b1⟩ := h1
  obtain ⟨a, rfl⟩ := Int.eq_ofNat_of_zero_le a0
  obtain ⟨b, rfl⟩ := Int.eq_ofNat_of_zero_le b0
  have h := bits_or_u64_nat (2 ^ 32 * a) b (by omega) (by omega)
  rw [← Nat.two_pow_add_eq_or_of_lt (by omega : b < 2 ^ 32)] at h
  have e : ((2 ^ 32 * a : Nat) : Int) = (a : Int) * 4294967296 := by omega
  rw [e] at h
  rw [h]
  omega
theorem div_bd (z y : Int) (hi : Int) (h0 : 0 ≤ z) (hz : z < y * 4294967296) (hy : 0 < y) : 0 ≤ z / y ∧ z / y < 4294967296 ∧ 0 ≤ z % y ∧ z % y < y :=
  ⟨Int.ediv_nonneg h0 (by omega), Int.ediv_lt_of_lt_mul hy (by rw [Int.mul_comm]; exact hz), Int.emod_nonneg _ (by omega), Int.emod_lt_of_pos _ hy⟩

theorem div32_any (hi lo y : Int) (w : World) (h0 : wd hi) (h1 : wd lo) (h2 : wd y) (hlt : hi < y) :
    Calls Tryd.prog 92 #[.int .u32 hi, .int .u32 lo, .int .u32 y] w fun e w' => e = .returned (.tuple #[.int .u32 ((hi * 4294967296 + lo) / y), .int .u32 ((hi * 4294967296 + lo) % y)]) ∧ ∃ n, w' = w.drewN n := by
  have hor := or_join hi lo h0 h1
  obtain ⟨a0, a1⟩ := h0
  obtain ⟨b0, b1⟩ := h1
  obtain ⟨c0, c1⟩ := h2
  have hy : (y != 0) = true := by simp; omega
  have hle : decide (y ≤ hi) = false := decide_eq_false (by omega)
  have hy0 : y ≠ 0 := by omega
  have hyp : 0 < y := by omega
  have hd := div_bd (hi * 4294967296 + lo) y hi (by omega) (by omega) (by omega)
  obtain ⟨d0, d1, d2, d3⟩ := hd
  have HD := Lib.hid (⟨d0, d1, d2, d3⟩ : 0 ≤ (hi * 4294967296 + lo) / y ∧ (hi * 4294967296 + lo) / y < 4294967296 ∧ 0 ≤ (hi * 4294967296 + lo) % y ∧ (hi * 4294967296 + lo) % y < y)
  go_enter Tryd.func92, Tryd.ntmps92
  go_wp2
  go_quiet (fail)
  go_wp2
  go_ret2
  exact ⟨rfl, _, rfl⟩
theorem plus_step (x c : Int) (w : World) (hx : wd x) (hc : wd c) :
    Calls Tryd.prog 131 #[.int .u32 x, .int .u32 c] w fun e w' => e = .returned (.tuple #[.int .u32 ((x + c) % 4294967296), .int .u32 ((x + c) / 4294967296)]) ∧ w = w' := by
  have h0 : wd 0 := by unfold wd; omega
  go_enter Tryd.func131, Tryd.ntmps131
  go_wp2_with (go_at_call 123; refine (add32_any _ _ _ _ hx hc h0).mono ?_; rintro e w' ⟨rfl, rfl⟩)
  go_ret2
  exact ⟨rfl, rfl⟩
theorem up_plus (x0 x1 x2 c : Int) (w : World) (h0 : wd x0) (h1 : wd x1) (h2 : wd x2) (hc : wd c) :
    Calls Tryd.prog 120 #[.agg #[.int .u32 x0, .int .u32 x1, .int .u32 x2], .int .u32 c, .func (.func 131) #[] #[]] w fun e w' =>
      e = .returned (.tuple #[.agg #[.int .u32 ((x0 + c) % 4294967296), .int .u32 ((x1 + (x0 + c) / 4294967296) % 4294967296), .int .u32 ((x2 + (x1 + (x0 + c) / 4294967296) / 4294967296) % 4294967296)], .int .u32 ((x2 + (x1 + (x0 + c) / 4294967296) / 4294967296) / 4294967296)]) ∧ Below w.heap.size w w' := by
  have hc1 : wd ((x0 + c) / 4294967296) := by unfold wd at *; omega
  have hc2 : wd ((x1 + (x0 + c) / 4294967296) / 4294967296) := by unfold wd at *; omega
  go_enter Tryd.func120, Tryd.ntmps120
  go_wp2_with fail
  refine wp_loop_rounds 4 ?_
  rw [rounds_succ]
  go_wp2_with fail
  refine (plus_step x0 c _ h0 hc).mono ?_
  rintro e w' ⟨rfl, rfl⟩
  go_wp2_with fail
  rw [rounds_succ]
  go_wp2_with fail
  refine (plus_step x1 _ _ h1 hc1).mono ?_
  rintro e w' ⟨rfl, rfl⟩
  go_wp2_with fail
  rw [rounds_succ]
  go_wp2_with fail
  refine (plus_step x2 _ _ h2 hc2).mono ?_
  rintro e w' ⟨rfl, rfl⟩
  go_wp2_with fail
  rw [rounds_succ]
  go_wp2_with fail
  refine bodyPost_ret (v := .tuple #[.agg #[.int .u32 ((x0 + c) % 4294967296), .int .u32 ((x1 + (x0 + c) / 4294967296) % 4294967296), .int .u32 ((x2 + (x1 + (x0 + c) / 4294967296) / 4294967296) % 4294967296)], .int .u32 ((x2 + (x1 + (x0 + c) / 4294967296) / 4294967296) / 4294967296)]) (by simp [results, Tryd.results120, go_sem]) rfl ⟨rfl, ?_⟩
  exact ((Below.refl _ _).alloc (Nat.le_refl _) _).alloc (by simp) _

def plusW (x : W3) (m : Int) : W3 := ⟨(x.a + m) % 4294967296, (x.b + (x.a + m) / 4294967296) % 4294967296, (x.c + (x.b + (x.a + m) / 4294967296) / 4294967296) % 4294967296⟩
def plusC (x : W3) (m : Int) : Int := (x.c + (x.b + (x.a + m) / 4294967296) / 4294967296) / 4294967296
theorem plusW_ok (x : W3) (m : Int) : (plusW x m).ok := by
  unfold plusW W3.ok wd
  dsimp only
  omega
theorem plusC_wd (x : W3) (m : Int) (hx : x.ok) (hm : wd m) : wd (plusC x m) := by
  unfold plusC W3.ok wd at *
  omega
theorem plus_num (x : W3) (m : Int) : (plusW x m).num + plusC x m * 79228162514264337593543950336 = x.num + m := by
  unfold plusW plusC W3.num
  dsimp only
  omega
theorem plus_any (x : W3) (m : Int) (w : World) (hx : x.ok) (hm : wd m) :
    Calls Tryd.prog 91 #[.agg #[.int .u32 x.a, .int .u32 x.b, .int .u32 x.c], .int .u32 m] w fun e w' =>
      e = .returned (.tuple #[.agg #[.int .u32 (plusW x m).a, .int .u32 (plusW x m).b, .int .u32 (plusW x m).c], .int .u32 (plusC x m)]) ∧ Below w.heap.size w w' := by
  obtain ⟨h0, h1, h2⟩ := hx
  go_enter Tryd.func91, Tryd.ntmps91
  go_wp2_with fail
  refine (up_plus x.a x.b x.c m _ h0 h1 h2 hm).mono ?_
  rintro e w1 ⟨rfl, hb⟩
  obtain ⟨bc, bf⟩ := bcell hb
  have HB := Lib.hid hb
  have hz1 := hb.size
  simp at hz1
  have g0 : w1.cell? ⟨w.heap.size + 1, 0, none⟩ = some (.int .u32 0) := by rw [bc _ _ (by simp)]; go_simp
  have g1 : w1.cell? ⟨w.heap.size + 1, 1, none⟩ = some (.int .u32 0) := by rw [bc _ _ (by simp)]; go_simp
  have g2 : w1.cell? ⟨w.heap.size + 1, 2, none⟩ = some (.int .u32 0) := by rw [bc _ _ (by simp)]; go_simp
  have f0 : w1.frozen? ⟨w.heap.size + 1, 0, none⟩ = false := by rw [bf _ _ (by simp)]; go_simp
  have f1 : w1.frozen? ⟨w.heap.size + 1, 1, none⟩ = false := by rw [bf _ _ (by simp)]; go_simp
  have f2 : w1.frozen? ⟨w.heap.size + 1, 2, none⟩ = false := by rw [bf _ _ (by simp)]; go_simp
  clear hb bc bf
  go_wp2_with fail
  refine bodyPost_ret (v := .tuple #[.agg #[.int .u32 (plusW x m).a, .int .u32 (plusW x m).b, .int .u32 (plusW x m).c], .int .u32 (plusC x m)]) (by simp [results, Tryd.results91, go_sem, plusW, plusC, g0, g1, g2]) rfl ⟨rfl, ?_⟩
  have hW := below_then' (blw_alloc (blw_alloc (Below.refl _ _) _) _) HB.out
  exact ((hW.setCell (by simp) _).setCell (by simp) _).setCell (by simp) _

def ov2 (x : W3) (d : Int) : Int := x.c % d
def ov1 (x : W3) (d : Int) : Int := (ov2 x d * 4294967296 + x.b) % d
def ov0 (x : W3) (d : Int) : Int := (ov1 x d * 4294967296 + x.a) % d
def overW (x : W3) (d : Int) : W3 := ⟨(ov1 x d * 4294967296 + x.a) / d, (ov2 x d * 4294967296 + x.b) / d, x.c / d⟩
theorem over_facts (x : W3) (d : Int) (hx : x.ok) (hd : wd d) (h0 : d ≠ 0) : (wd (ov2 x d) ∧ ov2 x d < d) ∧ (wd (ov1 x d) ∧ ov1 x d < d) ∧ (wd (ov0 x d) ∧ ov0 x d < d) ∧ (overW x d).ok ∧ (overW x d).num * d + ov0 x d = x.num := by
  unfold W3.ok wd at hx
  unfold wd at hd
  obtain ⟨⟨a0, a1⟩, ⟨b0, b1⟩, c0, c1⟩ := hx
  obtain ⟨d0, d1⟩ := hd
  have hp : 0 < d := by omega
  obtain ⟨p0, p1, p2, p3⟩ := div_bd x.c d 0 c0 (by omega) hp
  have e2 : 0 ≤ ov2 x d ∧ ov2 x d < d := ⟨p2, p3⟩
  obtain ⟨q0, q1, q2, q3⟩ := div_bd (ov2 x d * 4294967296 + x.b) d 0 (by omega) (by omega) hp
  have e1 : 0 ≤ ov1 x d ∧ ov1 x d < d := ⟨q2, q3⟩
  obtain ⟨r0, r1, r2, r3⟩ := div_bd (ov1 x d * 4294967296 + x.a) d 0 (by omega) (by omega) hp
  have e0 : 0 ≤ ov0 x d ∧ ov0 x d < d := ⟨r2, r3⟩
  have m2 : d * (x.c / d) + ov2 x d = x.c := Int.mul_ediv_add_emod x.c d
  have m1 : d * ((ov2 x d * 4294967296 + x.b) / d) + ov1 x d = ov2 x d * 4294967296 + x.b := Int.mul_ediv_add_emod _ d
  have m0 : d * ((ov1 x d * 4294967296 + x.a) / d) + ov0 x d = ov1 x d * 4294967296 + x.a := Int.mul_ediv_add_emod _ d
  refine ⟨⟨⟨by omega, by omega⟩, e2.2⟩, ⟨⟨by omega, by omega⟩, e1.2⟩, ⟨⟨by omega, by omega⟩, e0.2⟩, ?_, ?_⟩
  · unfold overW W3.ok wd
    dsimp only
    exact ⟨⟨r0, by omega⟩, ⟨q0, by omega⟩, p0, by omega⟩
  · unfold overW W3.num
    dsimp only
    generalize (ov1 x d * 4294967296 + x.a) / d = qa at *
    generalize (ov2 x d * 4294967296 + x.b) / d = qb at *
    generalize x.c / d = qc at *
    have e : (qa + qb * 4294967296 + qc * 18446744073709551616) * d = d * qa + (d * qb) * 4294967296 + (d * qc) * 18446744073709551616 := by
      rw [Int.add_mul, Int.add_mul, Int.mul_comm qa d, Int.mul_right_comm qb, Int.mul_right_comm qc, Int.mul_comm qb d, Int.mul_comm qc d]
    rw [e]
    generalize d * qa = A at *
    generalize d * qb = B at *
    generalize d * qc = C at *
    omega
theorem over_any (x : W3) (d : Int) (w : World) (hx : x.ok) (hd : wd d) (hn : d ≠ 0) :
    Calls Tryd.prog 41 #[.agg #[.int .u32 x.a, .int .u32 x.b, .int .u32 x.c], .int .u32 d] w fun e w' =>
      e = .returned (.tuple #[.agg #[.int .u32 (overW x d).a, .int .u32 (overW x d).b, .int .u32 (overW x d).c], .int .u32 (ov0 x d), .int .i64 0]) ∧ Below w.heap.size w w' := by
  obtain ⟨⟨f2, l2⟩, ⟨f1, l1⟩, ⟨f0, l0⟩, _, _⟩ := over_facts x d hx hd hn
  obtain ⟨h0, h1, h2⟩ := hx
  have hz : wd 0 := by unfold wd; omega
  have hdp : 0 < d := by unfold wd at hd; omega
  have hdb : (d == 0) = false := by simp [hn]
  go_enter Tryd.func41, Tryd.ntmps41
  go_wp2_with fail
  refine wp_loop_rounds 4 ?_
  rw [rounds_succ]
  go_wp2_with fail
  refine (div32_any 0 x.c d _ hz h2 hd hdp).mono ?_
  rintro e w' ⟨rfl, n1, rfl⟩
  rw [show (0 * 4294967296 + x.c) / d = x.c / d by rw [Int.zero_mul, Int.zero_add], show (0 * 4294967296 + x.c) % d = ov2 x d by rw [Int.zero_mul, Int.zero_add]; rfl]
  go_wp2_with fail
  rw [rounds_succ]
  go_wp2_with fail
  refine (div32_any (ov2 x d) x.b d _ f2 h1 hd l2).mono ?_
  rintro e w' ⟨rfl, n2, rfl⟩
  rw [show (ov2 x d * 4294967296 + x.b) % d = ov1 x d from rfl]
  go_wp2_with fail
  rw [rounds_succ]
  go_wp2_with fail
  refine (div32_any (ov1 x d) x.a d _ f1 h0 hd l1).mono ?_
  rintro e w' ⟨rfl, n3, rfl⟩
  rw [show (ov1 x d * 4294967296 + x.a) % d = ov0 x d from rfl]
  go_wp2_with fail
  rw [rounds_succ]
  go_wp2_with fail
  refine bodyPost_ret (v := .tuple #[.agg #[.int .u32 (overW x d).a, .int .u32 (overW x d).b, .int .u32 (overW x d).c], .int .u32 (ov0 x d), .int .i64 0]) (by simp [results, Tryd.results41, go_sem, overW]) rfl ⟨rfl, ?_⟩
  refine Below.setCell ?_ (by exact Nat.le_succ _) _
  refine Below.setCell ?_ (by exact Nat.le_succ _) _
  refine Below.setCell ?_ (by exact Nat.le_succ _) _
  refine Below.setCell ?_ (by exact Nat.le_refl _) _
  refine blw_step ?_ _
  refine Below.setCell ?_ (by exact Nat.le_refl _) _
  refine blw_step ?_ _
  refine Below.setCell ?_ (by exact Nat.le_refl _) _
  refine blw_step ?_ _
  exact blw_alloc (blw_alloc (Below.refl _ _) _) _
theorem over_zero (x : W3) (w : World) :
    Calls Tryd.prog 41 #[.agg #[.int .u32 x.a, .int .u32 x.b, .int .u32 x.c], .int .u32 0] w fun e w' =>
      e = .returned (.tuple #[.agg #[.int .u32 0, .int .u32 0, .int .u32 0], .int .u32 0, .int .i64 4]) ∧ Below w.heap.size w w' := by
  go_enter Tryd.func41, Tryd.ntmps41
  go_wp2_with fail
  refine bodyPost_ret (v := .tuple #[.agg #[.int .u32 0, .int .u32 0, .int .u32 0], .int .u32 0, .int .i64 4]) (by simp [results, Tryd.results41, go_sem]) rfl ⟨rfl, ?_⟩
  repeat (first | exact blw_alloc (blw_alloc (Below.refl _ _) _) _ | refine Below.setCell ?_ (by exact Nat.le_succ _) _)
end Go.Proofs.YtccjcdecpgigpaaDoor.Word
