/- The walk of PutBits. -/
import Derived.Test.YtjopjlnnmhokfaaBits
import Derived.Test.YtjopjlnnmhokfaaOpenW
namespace Go.Proofs.Ytjopjlnnmhokfaa.PutBits
open Go.RowKit Go.Proofs.Ytjopjlnnmhokfaa.Base Go.Proofs.Ytjopjlnnmhokfaa.Word Go.Proofs.Ytjopjlnnmhokfaa.Bits
set_option linter.unusedVariables false
set_option linter.unusedSimpArgs false
set_option maxRecDepth 200000
attribute [local go_sem] eq_w3
theorem join_words (M : Nat) (h : M < 2 ^ 96) : wordN M 0 + wordN M 1 * 4294967296 + wordN M 2 * 18446744073709551616 = M := by
  have h2 : M < 79228162514264337593543950336 := h
  unfold wordN
  simp only [Nat.mul_zero, Nat.pow_zero, Nat.div_one, Nat.mul_one]
  rw [show (2 : Nat) ^ 32 = 4294967296 from rfl, show (2 : Nat) ^ (32 * 2) = 18446744073709551616 from rfl]
  omega
theorem split_words (a b c : Nat) (ha : a < 4294967296) (hb : b < 4294967296) (hc : c < 4294967296) : wordN (a + b * 4294967296 + c * 18446744073709551616) 0 = a ∧ wordN (a + b * 4294967296 + c * 18446744073709551616) 1 = b ∧ wordN (a + b * 4294967296 + c * 18446744073709551616) 2 = c := by
  unfold wordN
  simp only [Nat.mul_zero, Nat.pow_zero, Nat.div_one, Nat.mul_one]
  rw [show (2 : Nat) ^ 32 = 4294967296 from rfl, show (2 : Nat) ^ (32 * 2) = 18446744073709551616 from rfl]
  omega
theorem word_lt (M q : Nat) : wordN M q < 4294967296 := Nat.mod_lt _ (by decide)
set_option maxHeartbeats 2000000 in
theorem walk (x : W3) (cs : List Value) (lo n : Int) (v : Int) (w : World) (hx : cs = x.cs ∧ x.ok) (wl : (Lit.int .i64 lo).wf = true) (wn : (Lit.int .i64 n).wf = true) (wv : (Lit.int .u64 v).wf = true) :
    Calls Try.prog 4 #[.agg cs.toArray, .int .i64 lo, .int .i64 n, .int .u64 v] w fun e w' => e = .returned (.bool true) ∧ Below w.heap.size w w' := by
  obtain ⟨rfl, ok⟩ := hx
  obtain ⟨l0, l1⟩ := i64_bound wl
  obtain ⟨n0, n1⟩ := i64_bound wn
  have hv : 0 ≤ v ∧ v < 18446744073709551616 := by
    simp [Lit.wf, IntKind.min, IntKind.max, IntKind.bits, IntKind.signed] at wv
    omega
  obtain ⟨v0, v1⟩ := hv
  clear wl wn wv
  obtain ⟨⟨a0, a1⟩, ⟨b0, b1⟩, c0, c1⟩ := ok
  obtain ⟨xa, xb, xc⟩ := x
  simp only at a0 a1 b0 b1 c0 c1
  obtain ⟨a, rfl⟩ := Int.eq_ofNat_of_zero_le a0
  obtain ⟨b, rfl⟩ := Int.eq_ofNat_of_zero_le b0
  obtain ⟨c, rfl⟩ := Int.eq_ofNat_of_zero_le c0
  obtain ⟨vn, rfl⟩ := Int.eq_ofNat_of_zero_le v0
  show Calls Try.prog 4 #[.agg #[.int .u32 (a : Int), .int .u32 (b : Int), .int .u32 (c : Int)], .int .i64 lo, .int .i64 n, .int .u64 (vn : Int)] w _
  obtain ⟨p0, p1⟩ := pk_bound lo 96 (by omega)
  have HP1 := Lib.hid (fun w => picked_any lo 96 w l0 l1 (by omega))
  generalize pk lo 96 = lI at *
  obtain ⟨L, rfl⟩ := Int.eq_ofNat_of_zero_le p0
  have hmn : 1 ≤ min 64 (96 - (L : Int)) ∧ min 64 (96 - (L : Int)) ≤ 64 ∧ min 64 (96 - (L : Int)) ≤ 96 - (L : Int) := by omega
  obtain ⟨m1, m2, m3⟩ := hmn
  obtain ⟨q0, q1⟩ := pk_bound n (min 64 (96 - (L : Int))) (by omega)
  have HP2 := Lib.hid (fun w => picked_any n (min 64 (96 - (L : Int))) w n0 n1 (by omega))
  generalize pk n (min 64 (96 - (L : Int))) = nI at *
  obtain ⟨k, rfl⟩ := Int.eq_ofNat_of_zero_le q0
  have hk1 : 1 + k ≤ 64 := by omega
  have hk2 : L + (1 + k) ≤ 96 := by omega
  obtain ⟨m, hm⟩ : ∃ m, m = 1 + k := ⟨_, rfl⟩
  have hmI : (1 : Int) + (k : Int) = (m : Int) := by omega
  rw [← hm] at hk1 hk2
  have hm1 : 1 ≤ m := by omega
  clear hm
  obtain ⟨u, hu⟩ : ∃ u, u = vn % 2 ^ m := ⟨_, rfl⟩
  have hu2 : u < 2 ^ m := by rw [hu]; exact Nat.mod_lt _ (Nat.two_pow_pos _)
  have ha : a < 4294967296 := by omega
  have hb : b < 4294967296 := by omega
  have hc : c < 4294967296 := by omega
  obtain ⟨N, hN⟩ : ∃ N, N = a + b * 4294967296 + c * 18446744073709551616 := ⟨_, rfl⟩
  have hN96 : N < 2 ^ 96 := by rw [hN]; show _ < 79228162514264337593543950336; omega
  have hM96 := put_lt N L m u hu2 hk2 hN96
  have hold : bitsN N L m < 2 ^ m := Nat.mod_lt _ (Nat.two_pow_pos _)
  have hB1 := fun w => bits_any a b c L m w ha hb hc hm1 hk1 hk2
  have hP1 := fun w => put_any a b c L m u w ha hb hc hm1 hk1 hk2 hu2
  rw [← hN] at hB1 hP1
  have hB2 := fun w => bits_any _ _ _ L m w (word_lt (putN N L m u) 0) (word_lt (putN N L m u) 1) (word_lt (putN N L m u) 2) hm1 hk1 hk2
  have hP2 := fun w => put_any _ _ _ L m (bitsN N L m) w (word_lt (putN N L m u) 0) (word_lt (putN N L m u) 1) (word_lt (putN N L m u) 2) hm1 hk1 hk2 hold
  rw [join_words _ hM96, bits_put N L m u hu2] at hB2
  rw [join_words _ hM96, put_back N L m u hu2] at hP2
  have hsp := split_words a b c ha hb hc
  rw [← hN] at hsp
  rw [hsp.1, hsp.2.1, hsp.2.2] at hP2
  have HB1 := Lib.hid hB1
  have HB2 := Lib.hid hB2
  have HPA := Lib.hid hP1
  have HPB := Lib.hid hP2
  have HU := Lib.hid hu
  have HU2 := Lib.hid hu2
  generalize bitsN N L m = old at *
  generalize wordN (putN N L m u) 0 = pa at *
  generalize wordN (putN N L m u) 1 = pb at *
  generalize wordN (putN N L m u) 2 = pc at *
  clear hB1 hB2 hP1 hP2 hsp hu hu2 hN hN96 hM96 hold
  by_cases h64 : m < 64
  · have h64i : (m : Int) < 64 := by omega
    obtain ⟨P, hP⟩ : ∃ P, P = 2 ^ m := ⟨_, rfl⟩
    have hPlt : P ≤ 9223372036854775808 := by rw [hP]; exact Nat.pow_le_pow_right (n := 2) (by decide) (by omega : m ≤ 63)
    have hP1 : 1 ≤ P := by rw [hP]; exact Nat.two_pow_pos m
    have ce : IntKind.u64.wrap ((2 : Int) ^ (1 + k)) = (P : Int) := by
      have e1 : ((2 ^ m : Nat) : Int) = (2 : Int) ^ m := by simp
      rw [IntKind.wrap_u64, show 1 + k = m by omega, ← e1, ← hP]
      omega
    have hmod : (vn : Int) % (P : Int) = (u : Int) := by
      have := HU.out
      rw [← hP] at this
      omega
    rw [← hmI] at h64i
    rw [← hmI] at HB1 HB2 HPA HPB
    clear hmI
    have hPz : ((P : Int) == 0) = false := beq_eq_false_iff_ne.mpr (by omega)
    clear hP hPlt v1 v0
    go_enter Try.func4, Try.ntmps4
    go_wp2_with (fail)
    go_at_call 15
    refine (HP1.out _).mono ?_
    rintro e w' ⟨rfl, rfl⟩
    go_wp2_with (fail)
    go_at_call 15
    refine (HP2.out _).mono ?_
    rintro e w' ⟨rfl, rfl⟩
    have k63 : (k : Int) < 64 := by omega
    clear m1 m2 m3 q1
    go_wp2_with (fail)
    go_at_call 17
    refine (HB1.out _).mono ?_
    rintro e w1 ⟨rfl, hb⟩
    obtain ⟨bc, bf⟩ := bcell hb
    have hz1 := hb.size
    simp at hz1
    have HB := Lib.hid (below_then' (blw_alloc (Below.refl _ _) _) hb)
    clear hb
    have lt1 : w.heap.size < w1.heap.size := by omega
    have ag0 : w1.cell? ⟨w.heap.size, 0, none⟩ = some (.int .u32 (a : Int)) := by rw [bc _ _ (by simp <;> omega)]; go_simp
    have ag1 : w1.cell? ⟨w.heap.size, 1, none⟩ = some (.int .u32 (b : Int)) := by rw [bc _ _ (by simp <;> omega)]; go_simp
    have ag2 : w1.cell? ⟨w.heap.size, 2, none⟩ = some (.int .u32 (c : Int)) := by rw [bc _ _ (by simp <;> omega)]; go_simp
    clear bc bf
    go_wp2_with (fail)
    go_at_call 18
    refine (HPA.out _).mono ?_
    rintro e w2 ⟨rfl, hb⟩
    obtain ⟨bc, bf⟩ := bcell hb
    have hz2 := hb.size
    have HB_2 := Lib.hid (below_then' HB.out hb)
    clear hb
    have lt2 : w.heap.size < w2.heap.size := by omega
    have bg0 := (bc w.heap.size 0 lt1).trans ag0
    have bg1 := (bc w.heap.size 1 lt1).trans ag1
    have bg2 := (bc w.heap.size 2 lt1).trans ag2
    clear bc bf ag0 ag1 ag2 lt1 hz1
    go_wp2_with (fail)
    go_at_call 17
    refine (HB2.out _).mono ?_
    rintro e w3 ⟨rfl, hb⟩
    obtain ⟨bc, bf⟩ := bcell hb
    have hz3 := hb.size
    simp at hz3
    have HB_3 := Lib.hid (below_then' (blw_alloc HB_2.out _) hb)
    clear hb
    have lt3 : w.heap.size < w3.heap.size := by omega
    have lt32 : w2.heap.size < w3.heap.size := by omega
    have cg0 : w3.cell? ⟨w.heap.size, 0, none⟩ = some (.int .u32 (a : Int)) := by rw [bc _ _ (by simp <;> omega)]; go_simp
    have cg1 : w3.cell? ⟨w.heap.size, 1, none⟩ = some (.int .u32 (b : Int)) := by rw [bc _ _ (by simp <;> omega)]; go_simp
    have cg2 : w3.cell? ⟨w.heap.size, 2, none⟩ = some (.int .u32 (c : Int)) := by rw [bc _ _ (by simp <;> omega)]; go_simp
    have dg0 : w3.cell? ⟨w2.heap.size, 0, none⟩ = some (.int .u32 (pa : Int)) := by rw [bc _ _ (by simp <;> omega)]; go_simp
    have dg1 : w3.cell? ⟨w2.heap.size, 1, none⟩ = some (.int .u32 (pb : Int)) := by rw [bc _ _ (by simp <;> omega)]; go_simp
    have dg2 : w3.cell? ⟨w2.heap.size, 2, none⟩ = some (.int .u32 (pc : Int)) := by rw [bc _ _ (by simp <;> omega)]; go_simp
    clear bc bf bg0 bg1 bg2
    go_wp2_with (fail)
    go_at_call 18
    refine (HPB.out _).mono ?_
    rintro e w4 ⟨rfl, hb⟩
    obtain ⟨bc, bf⟩ := bcell hb
    have hz4 := hb.size
    have HB_4 := Lib.hid (below_then' HB_3.out hb)
    clear hb
    have lt4 : w.heap.size < w4.heap.size := by omega
    have eg0 := (bc w.heap.size 0 lt3).trans cg0
    have eg1 := (bc w.heap.size 1 lt3).trans cg1
    have eg2 := (bc w.heap.size 2 lt3).trans cg2
    clear bc bf cg0 cg1 cg2 dg0 dg1 dg2
    go_wp2_with (fail)
    go_ret
    exact ⟨by first | rfl | exact ret_bool (by simp), blw_alloc HB_4.out _⟩
  · have h64b : m = 64 := by omega
    have huv : u = vn := by
      have := HU.out
      rw [h64b] at this
      have h2 : vn < 2 ^ 64 := by show vn < 18446744073709551616; omega
      rw [this, Nat.mod_eq_of_lt h2]
    subst huv
    have h64i : ¬ (m : Int) < 64 := by omega
    rw [← hmI] at h64i
    rw [← hmI] at HB1 HB2 HPA HPB
    clear hmI v1 v0 HU HU2 h64 h64b
    go_enter Try.func4, Try.ntmps4
    go_wp2_with (fail)
    go_at_call 15
    refine (HP1.out _).mono ?_
    rintro e w' ⟨rfl, rfl⟩
    go_wp2_with (fail)
    go_at_call 15
    refine (HP2.out _).mono ?_
    rintro e w' ⟨rfl, rfl⟩
    have k63 : (k : Int) < 64 := by omega
    clear m1 m2 m3 q1
    go_wp2_with (fail)
    go_at_call 17
    refine (HB1.out _).mono ?_
    rintro e w1 ⟨rfl, hb⟩
    obtain ⟨bc, bf⟩ := bcell hb
    have hz1 := hb.size
    simp at hz1
    have HB := Lib.hid (below_then' (blw_alloc (Below.refl _ _) _) hb)
    clear hb
    have lt1 : w.heap.size < w1.heap.size := by omega
    have ag0 : w1.cell? ⟨w.heap.size, 0, none⟩ = some (.int .u32 (a : Int)) := by rw [bc _ _ (by simp <;> omega)]; go_simp
    have ag1 : w1.cell? ⟨w.heap.size, 1, none⟩ = some (.int .u32 (b : Int)) := by rw [bc _ _ (by simp <;> omega)]; go_simp
    have ag2 : w1.cell? ⟨w.heap.size, 2, none⟩ = some (.int .u32 (c : Int)) := by rw [bc _ _ (by simp <;> omega)]; go_simp
    clear bc bf
    go_wp2_with (fail)
    go_at_call 18
    refine (HPA.out _).mono ?_
    rintro e w2 ⟨rfl, hb⟩
    obtain ⟨bc, bf⟩ := bcell hb
    have hz2 := hb.size
    have HB_2 := Lib.hid (below_then' HB.out hb)
    clear hb
    have lt2 : w.heap.size < w2.heap.size := by omega
    have bg0 := (bc w.heap.size 0 lt1).trans ag0
    have bg1 := (bc w.heap.size 1 lt1).trans ag1
    have bg2 := (bc w.heap.size 2 lt1).trans ag2
    clear bc bf ag0 ag1 ag2 lt1 hz1
    go_wp2_with (fail)
    go_at_call 17
    refine (HB2.out _).mono ?_
    rintro e w3 ⟨rfl, hb⟩
    obtain ⟨bc, bf⟩ := bcell hb
    have hz3 := hb.size
    simp at hz3
    have HB_3 := Lib.hid (below_then' (blw_alloc HB_2.out _) hb)
    clear hb
    have lt3 : w.heap.size < w3.heap.size := by omega
    have lt32 : w2.heap.size < w3.heap.size := by omega
    have cg0 : w3.cell? ⟨w.heap.size, 0, none⟩ = some (.int .u32 (a : Int)) := by rw [bc _ _ (by simp <;> omega)]; go_simp
    have cg1 : w3.cell? ⟨w.heap.size, 1, none⟩ = some (.int .u32 (b : Int)) := by rw [bc _ _ (by simp <;> omega)]; go_simp
    have cg2 : w3.cell? ⟨w.heap.size, 2, none⟩ = some (.int .u32 (c : Int)) := by rw [bc _ _ (by simp <;> omega)]; go_simp
    have dg0 : w3.cell? ⟨w2.heap.size, 0, none⟩ = some (.int .u32 (pa : Int)) := by rw [bc _ _ (by simp <;> omega)]; go_simp
    have dg1 : w3.cell? ⟨w2.heap.size, 1, none⟩ = some (.int .u32 (pb : Int)) := by rw [bc _ _ (by simp <;> omega)]; go_simp
    have dg2 : w3.cell? ⟨w2.heap.size, 2, none⟩ = some (.int .u32 (pc : Int)) := by rw [bc _ _ (by simp <;> omega)]; go_simp
    clear bc bf bg0 bg1 bg2
    go_wp2_with (fail)
    go_at_call 18
    refine (HPB.out _).mono ?_
    rintro e w4 ⟨rfl, hb⟩
    obtain ⟨bc, bf⟩ := bcell hb
    have hz4 := hb.size
    have HB_4 := Lib.hid (below_then' HB_3.out hb)
    clear hb
    have lt4 : w.heap.size < w4.heap.size := by omega
    have eg0 := (bc w.heap.size 0 lt3).trans cg0
    have eg1 := (bc w.heap.size 1 lt3).trans cg1
    have eg2 := (bc w.heap.size 2 lt3).trans cg2
    clear bc bf cg0 cg1 cg2 dg0 dg1 dg2
    go_wp2_with (fail)
    go_ret
    exact ⟨by first | rfl | exact ret_bool (by simp), blw_alloc HB_4.out _⟩
end Go.Proofs.Ytjopjlnnmhokfaa.PutBits
