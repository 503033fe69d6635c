/- The walk of TimesTurns. -/
import Derived.Test.YtdomipmfghnfaaaWord
namespace Go.Proofs.Ytdomipmfghnfaaa.TimesTurns
open Go.RowKit Go.Proofs.Ytdomipmfghnfaaa.Base Go.Proofs.Ytdomipmfghnfaaa.Word
set_option linter.unusedVariables false
set_option linter.unusedSimpArgs false

theorem num_mod (x : W3) (m : Int) : (timesW x m).num = (x.num * m) % 79228162514264337593543950336 := by
  have h := times_num x m
  have hb := num_bound (timesW_ok x m)
  omega
theorem turns (x : W3) (a b : Int) : timesW (timesW x a) b = timesW (timesW x b) a := by
  apply num_inj (timesW_ok _ _) (timesW_ok _ _)
  rw [num_mod, num_mod, num_mod, num_mod]
  rw [Int.mul_emod, Int.emod_emod_of_dvd _ (Int.dvd_refl _), ← Int.mul_emod, Int.mul_emod (x.num * b % _) a, Int.emod_emod_of_dvd _ (Int.dvd_refl _), ← Int.mul_emod, Int.mul_right_comm]
theorem once (x : W3) (hx : x.ok) : timesW x 1 = x ∧ timesC x 1 = 0 := by
  have h := times_num x 1
  have hb := num_bound (timesW_ok x 1)
  have hc := num_bound hx
  have hw := timesC_wd x 1 hx (by unfold wd; omega)
  unfold wd at hw
  have h0 : timesC x 1 = 0 := by omega
  exact ⟨num_inj (timesW_ok _ _) hx (by omega), h0⟩
attribute [local go_sem] eq_w3
theorem walk (x : W3) (cs : List Value) (a b : Int) (w : World) (hx : cs = x.cs ∧ x.ok) (wa : (Lit.int .u32 a).wf = true) (wb : (Lit.int .u32 b).wf = true) :
    Calls Try.prog 8 #[.agg cs.toArray, .int .u32 a, .int .u32 b] w fun e w' => e = .returned (.bool true) ∧ Below w.heap.size w w' := by
  obtain ⟨rfl, ok⟩ := hx
  have ha : wd a := by simp [Lit.wf, IntKind.min, IntKind.max, IntKind.bits, IntKind.signed] at wa; unfold wd; omega
  have hb : wd b := by simp [Lit.wf, IntKind.min, IntKind.max, IntKind.bits, IntKind.signed] at wb; unfold wd; omega
  have h1 : wd 1 := by unfold wd; omega
  clear wa wb
  have hT := turns x a b
  have hO := once x ok
  show Calls _ _ #[.agg #[.int .u32 x.a, .int .u32 x.b, .int .u32 x.c], .int .u32 a, .int .u32 b] _ _
  have okA := timesW_ok x a
  have okB := timesW_ok x b
  have HT := Lib.hid hT
  have HO := Lib.hid hO
  clear hT hO
  go_enter Try.func8, Try.ntmps8
  go_wp2_with fail
  refine (times_any x a _ ok ha).mono ?_
  rintro e w1 ⟨rfl, hb1⟩
  obtain ⟨bc1, bf1⟩ := bcell hb1
  have hz1 := hb1.size
  simp at hz1
  have HB1 := Lib.hid hb1
  clear hb1
  have lt1_w : w.heap.size < w1.heap.size := by omega
  go_wp2_with fail
  refine (times_any (timesW x a) b _ okA hb).mono ?_
  rintro e w2 ⟨rfl, hb2⟩
  obtain ⟨bc2, bf2⟩ := bcell hb2
  have hz2 := hb2.size
  simp at hz2
  have HB2 := Lib.hid hb2
  clear hb2
  have lt2_w : w.heap.size < w2.heap.size := by omega
  have lt2_w1 : w1.heap.size < w2.heap.size := by omega
  go_wp2_with fail
  refine (times_any x b _ ok hb).mono ?_
  rintro e w3 ⟨rfl, hb3⟩
  obtain ⟨bc3, bf3⟩ := bcell hb3
  have hz3 := hb3.size
  simp at hz3
  have HB3 := Lib.hid hb3
  clear hb3
  have lt3_w : w.heap.size < w3.heap.size := by omega
  have lt3_w1 : w1.heap.size < w3.heap.size := by omega
  go_wp2_with fail
  refine (times_any (timesW x b) a _ okB ha).mono ?_
  rw [← HT.out]
  rintro e w4 ⟨rfl, hb4⟩
  obtain ⟨bc4, bf4⟩ := bcell hb4
  have hz4 := hb4.size
  simp at hz4
  have HB4 := Lib.hid hb4
  clear hb4
  have lt4_w : w.heap.size < w4.heap.size := by omega
  have lt4_w1 : w1.heap.size < w4.heap.size := by omega
  have lt4_w3 : w3.heap.size < w4.heap.size := by omega
  go_wp2_with fail
  refine (times_any x 1 _ ok h1).mono ?_
  rw [HO.out.1, HO.out.2]
  rintro e w5 ⟨rfl, hb5⟩
  obtain ⟨bc5, bf5⟩ := bcell hb5
  have hz5 := hb5.size
  simp at hz5
  have HB5 := Lib.hid hb5
  clear hb5
  have lt5_w : w.heap.size < w5.heap.size := by omega
  have lt5_w1 : w1.heap.size < w5.heap.size := by omega
  have lt5_w3 : w3.heap.size < w5.heap.size := by omega
  go_wp2_with fail
  go_ret
  have l1 : w.heap.size ≤ w1.heap.size := by omega
  have l3 : w.heap.size ≤ w3.heap.size := by omega
  have B1 := below_then' (blw_alloc (Below.refl _ _) _) HB1.out
  have B2 := below_then' (blw_alloc B1 _) HB2.out
  have B3 := below_then' (((B2.setCell l1 _).setCell l1 _).setCell l1 _) HB3.out
  have B4 := below_then' (blw_alloc B3 _) HB4.out
  have B5 := below_then' (((B4.setCell l3 _).setCell l3 _).setCell l3 _) HB5.out
  exact ⟨rfl, blw_alloc B5 _⟩
end Go.Proofs.Ytdomipmfghnfaaa.TimesTurns
