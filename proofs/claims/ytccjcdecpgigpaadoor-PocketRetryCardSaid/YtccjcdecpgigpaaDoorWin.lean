/- Contracts of package window: may, Judge, Take. -/
import Derived.Test.YtccjcdecpgigpaaDoorBase
import Derived.Test.YtccjcdecpgigpaaDoorApp
import Derived.Test.YtccjcdecpgigpaaDoorShelf
import Derived.Laws.BitsAllLaws
import Derived.Lib.ItoaNum
import Derived.Deep.RegionHeld3
namespace Go.Proofs.YtccjcdecpgigpaaDoor.Win
open Go.RowKit Go.Proofs.YtccjcdecpgigpaaDoor.Base
set_option linter.unusedVariables false
set_option linter.unusedSimpArgs false
set_option maxRecDepth 20000

theorem len64_any (x : Int) (w : World) (h0 : 0 ≤ x) (h1 : x ≤ 18446744073709551615) :
    Calls Tryd.prog 119 #[.int .u64 x] w fun e w' => e = .returned (.int .i64 (Lib.bitLen x.toNat)) ∧ w = w' :=
  (Tryd.bits_Len64 x w h0 h1).mono fun _ _ h => ⟨h.1, h.2.symm⟩
theorem bitLen_lt {n k : Nat} (hn : n < 18446744073709551616) (hk : k ≤ 64) : Lib.bitLen n ≤ k ↔ n < 2 ^ k := by
  constructor
  · intro h
    by_cases h0 : n = 0
    · subst h0; exact Nat.two_pow_pos k
    · have hb := (Lib.bitLenAux_bounds 64 n hn h0).2.2
      exact Nat.lt_of_lt_of_le hb (Nat.pow_le_pow_right (by decide) h)
  · intro h; exact Lib.bitLen_le n k hk h
theorem bit0 (B : Nat) (h1 : B < 18446744073709551616) : bits .and .u64 (B : Int) 1 = ((B % 2 : Nat) : Int) := by
  have h := u64_and_nat B 1 h1 (by decide)
  rw [nat_mask1] at h
  exact h
/-- May a window be? -/
def wmay (h : Int) (B : Nat) : Bool := if h < 1 then (h == 0 && B == 0) else (decide (h ≤ 1048575) && decide (B % 2 = 1) && decide (B < 2 ^ (min h.toNat 64)))
theorem may_any (h : Int) (B : Nat) (w : World) (h0 : -9223372036854775808 ≤ h) (h1 : h ≤ 9223372036854775807) (hB : B < 18446744073709551616) :
    Calls Tryd.prog 145 #[.agg #[.int .i64 h, .int .u64 (B : Int)]] w fun e w' => e = .returned (.bool (wmay h B)) ∧ Below w.heap.size w w' := by
  by_cases hh : h < 1
  · have hv : wmay h B = (h == 0 && B == 0) := by unfold wmay; rw [if_pos hh]
    have HV := Lib.hid hv
    clear hv
    by_cases a : h = 0
    · subst a
      by_cases b : B = 0
      · subst b
        go_enter Tryd.func145, Tryd.ntmps145
        go_wp2
        go_ret
        exact ⟨ret_bool (by rw [HV.out]; rfl), blw_alloc (Below.refl _ _) _⟩
      · have b' : ((B : Int) == 0) = false := beq_eq_false_iff_ne.mpr (by omega)
        have b2 : (B == 0) = false := beq_eq_false_iff_ne.mpr (by omega)
        clear b
        go_enter Tryd.func145, Tryd.ntmps145
        go_wp2
        go_ret
        exact ⟨ret_bool (by rw [HV.out]; simp [b', b2]), blw_alloc (Below.refl _ _) _⟩
    · have a' : (h == 0) = false := beq_eq_false_iff_ne.mpr a
      clear a
      go_enter Tryd.func145, Tryd.ntmps145
      go_wp2
      go_ret
      exact ⟨ret_bool (by rw [HV.out]; simp [a']), blw_alloc (Below.refl _ _) _⟩
  · have hv : wmay h B = (decide (h ≤ 1048575) && decide (B % 2 = 1) && decide (B < 2 ^ (min h.toNat 64))) := by unfold wmay; rw [if_neg hh]
    have HV := Lib.hid hv
    clear hv
    have e0 := bit0 B hB
    have hl : Lib.bitLen B ≤ min h.toNat 64 ↔ B < 2 ^ (min h.toNat 64) := bitLen_lt hB (by omega)
    have HL := Lib.hid hl
    have hl64 : Lib.bitLen B ≤ 64 := (bitLen_lt hB (by omega)).2 (by simpa using hB)
    clear hl
    have mn : min h 64 = ((min h.toNat 64 : Nat) : Int) := by omega
    by_cases a : h ≤ 1048575
    · by_cases b : B % 2 = 1
      · have b' : ((((B % 2 : Nat) : Int)) == 1) = true := beq_iff_eq.mpr (by omega)
        have b2 : ((((B : Nat) : Int) % 2) == 1) = true := beq_iff_eq.mpr (by omega)
        have HB := Lib.hid b
        clear b
        go_enter Tryd.func145, Tryd.ntmps145
        go_wp2_with (go_at_call 119; refine (len64_any _ _ (by omega) (by omega)).mono ?_; rintro e w' ⟨rfl, rfl⟩)
        go_ret
        exact ⟨ret_bool (by rw [HV.out, decide_eq_true a, decide_eq_true HB.out, Bool.true_and, Bool.true_and, decide_eq_decide.2 HL.out]), blw_alloc (Below.refl _ _) _⟩
      · have b' : ((((B % 2 : Nat) : Int)) == 1) = false := beq_eq_false_iff_ne.mpr (by omega)
        have b2 : ((((B : Nat) : Int) % 2) == 1) = false := beq_eq_false_iff_ne.mpr (by omega)
        have HB := Lib.hid b
        clear b
        go_enter Tryd.func145, Tryd.ntmps145
        go_wp2_with (go_at_call 119; refine (len64_any _ _ (by omega) (by omega)).mono ?_; rintro e w' ⟨rfl, rfl⟩)
        go_ret
        exact ⟨ret_bool (by rw [HV.out, decide_eq_false HB.out]; simp), blw_alloc (Below.refl _ _) _⟩
    · have a' : decide (h ≤ 1048575) = false := decide_eq_false a
      go_enter Tryd.func145, Tryd.ntmps145
      go_wp2_with (go_at_call 119; refine (len64_any _ _ (by omega) (by omega)).mono ?_; rintro e w' ⟨rfl, rfl⟩)
      go_ret
      exact ⟨ret_bool (by rw [HV.out, a']; simp), blw_alloc (Below.refl _ _) _⟩

theorem wmay_pos {h : Int} {B : Nat} (hm : wmay h B = true) (h1 : 1 ≤ h) : h ≤ 1048575 ∧ B % 2 = 1 ∧ B < 2 ^ (min h.toNat 64) := by
  unfold wmay at hm
  rw [if_neg (by omega)] at hm
  simpa [and_assoc] using hm
theorem wmay_nonneg {h : Int} {B : Nat} (hm : wmay h B = true) : (h = 0 ∧ B = 0) ∨ 1 ≤ h := by
  by_cases hh : h < 1
  · unfold wmay at hm
    rw [if_pos hh] at hm
    simp at hm
    exact .inl hm
  · exact .inr (by omega)
theorem wmay_bd {h : Int} {B : Nat} (hm : wmay h B = true) : 0 ≤ h ∧ h ≤ 1048575 := by
  rcases wmay_nonneg hm with ⟨rfl, _⟩ | h1
  · omega
  · have := wmay_pos hm h1; omega
/-- What is wrong with a number? -/
def judgeI (h : Int) (B : Nat) (id : Int) : Int := if h - id ≥ 64 then 13 else if h - id ≥ 0 ∧ B / 2 ^ (h - id).toNat % 2 = 1 then 14 else 0
theorem bit_test (B k : Nat) (hB : B < 18446744073709551616) : (bits .and .u64 ((B : Int) / 2 ^ k) 1 == 1) = decide (B / 2 ^ k % 2 = 1) := by
  have e : ((B : Int) / 2 ^ k) = ((B / 2 ^ k : Nat) : Int) := by simp
  rw [e, bit0 _ (Nat.lt_of_le_of_lt (Nat.div_le_self _ _) hB), Bool.eq_iff_iff]
  simp only [beq_iff_eq, decide_eq_true_eq]
  omega
theorem judge_any (h : Int) (B : Nat) (id : Int) (w : World) (hB : B < 18446744073709551616) (hm : wmay h B = true) (i0 : 1 ≤ id) (i1 : id ≤ 1048575) :
    Calls Tryd.prog 146 #[.agg #[.int .i64 h, .int .u64 (B : Int)], .int .i64 id] w fun e w' => e = .returned (.int .i64 (judgeI h B id)) ∧ Below w.heap.size w w' := by
  obtain ⟨h0, h1⟩ := wmay_bd hm
  have hmay := fun w => may_any h B w (by omega) (by omega) hB
  rw [hm] at hmay
  have HM := Lib.hid hmay
  clear hmay hm
  by_cases a : h - id ≥ 64
  · have HJ := Lib.hid (show judgeI h B id = 13 by unfold judgeI; rw [if_pos a])
    go_enter Tryd.func146, Tryd.ntmps146
    go_wp2_with (fail)
    go_at_call 145
    refine (HM.out _).mono ?_
    rintro e w1 ⟨rfl, hb⟩
    obtain ⟨bc, bf⟩ := bcell hb
    have hz1 := hb.size
    simp at hz1
    have HB := Lib.hid hb
    clear hb
    have lt1 : w.heap.size < w1.heap.size := by omega
    go_wp2
    go_ret
    exact ⟨by rw [HJ.out]; rfl, below_then' (blw_alloc (Below.refl _ _) _) HB.out⟩
  · by_cases b : h - id ≥ 0
    · have e4 : h - id < 64 := by omega
      have hj : judgeI h B id = if B / 2 ^ (h - id).toNat % 2 = 1 then 14 else 0 := by
        unfold judgeI
        rw [if_neg a]
        by_cases c : B / 2 ^ (h - id).toNat % 2 = 1
        · rw [if_pos ⟨b, c⟩, if_pos c]
        · rw [if_neg (fun x => c x.2), if_neg c]
      have HJ := Lib.hid hj
      clear hj
      have ht := bit_test B (h - id).toNat hB
      cases hc : decide (B / 2 ^ (h - id).toNat % 2 = 1)
      all_goals
        rw [hc] at ht
        have HC := Lib.hid hc
        clear hc
        go_enter Tryd.func146, Tryd.ntmps146
        go_wp2_with (fail)
        go_at_call 145
        refine (HM.out _).mono ?_
        rintro e w1 ⟨rfl, hb⟩
        obtain ⟨bc, bf⟩ := bcell hb
        have hz1 := hb.size
        simp at hz1
        have HB := Lib.hid hb
        clear hb
        have lt1 : w.heap.size < w1.heap.size := by omega
        go_wp2
        go_ret
        exact ⟨by rw [HJ.out]; first | rw [if_pos (of_decide_eq_true HC.out)]; rfl | rw [if_neg (of_decide_eq_false HC.out)]; rfl, below_then' (blw_alloc (Below.refl _ _) _) HB.out⟩
    · have b' : decide (h - id ≥ 0) = false := decide_eq_false b
      have HJ := Lib.hid (show judgeI h B id = 0 by unfold judgeI; rw [if_neg a, if_neg (by omega)])
      go_enter Tryd.func146, Tryd.ntmps146
      go_wp2_with (fail)
      go_at_call 145
      refine (HM.out _).mono ?_
      rintro e w1 ⟨rfl, hb⟩
      obtain ⟨bc, bf⟩ := bcell hb
      have hz1 := hb.size
      simp at hz1
      have HB := Lib.hid hb
      clear hb
      have lt1 : w.heap.size < w1.heap.size := by omega
      go_wp2
      go_ret
      exact ⟨by rw [HJ.out]; rfl, below_then' (blw_alloc (Below.refl _ _) _) HB.out⟩
/-- The window behind a number that was taken. -/
def takeH (h id : Int) : Int := if id > h then id else h
def takeB (h : Int) (B : Nat) (id : Int) : Nat := if id > h then B * 2 ^ (min (id - h).toNat 64) % 18446744073709551616 + 1 else B + 2 ^ (h - id).toNat
theorem or_low (x : Nat) (k : Nat) (h0 : 1 ≤ k) : bits .or .u64 (((x : Int) * 2 ^ k) % 18446744073709551616) 1 = ((x * 2 ^ k % 18446744073709551616 + 1 : Nat) : Int) := by
  have e : (((x : Int) * 2 ^ k) % 18446744073709551616) = ((x * 2 ^ k % 18446744073709551616 : Nat) : Int) := by simp
  have h := u64_or_nat (x * 2 ^ k % 18446744073709551616) 1 (Nat.mod_lt _ (by decide)) (by decide)
  rw [e]
  have h2 : x * 2 ^ k % 18446744073709551616 % 2 ^ 1 = 0 := by
    obtain ⟨j, rfl⟩ : ∃ j, k = j + 1 := ⟨k - 1, by omega⟩
    rw [Nat.pow_succ, ← Nat.mul_assoc]
    omega
  rw [nat_join 1 _ 1 h2 (by decide)] at h
  exact h
theorem or_two_pow {B k : Nat} (h0 : ¬ B / 2 ^ k % 2 = 1) : B ||| 2 ^ k = B + 2 ^ k := by
  have h1 := Nat.div_add_mod B (2 ^ k)
  have hr : B % 2 ^ k < 2 ^ k := Nat.mod_lt _ (Nat.two_pow_pos k)
  have hq : B / 2 ^ k = 2 * (B / 2 ^ k / 2) := by omega
  apply Nat.eq_of_testBit_eq
  intro i
  rw [Nat.testBit_or, Nat.testBit_two_pow]
  have hB : B + 2 ^ k = 2 ^ k * (2 * (B / 2 ^ k / 2) + 1) + B % 2 ^ k := by
    rw [Nat.mul_add, ← hq, Nat.mul_one]; omega
  have hB0 : B = 2 ^ k * (2 * (B / 2 ^ k / 2)) + B % 2 ^ k := by
    rw [← hq]; exact h1.symm
  rw [hB]
  generalize B % 2 ^ k = r at *
  generalize B / 2 ^ k / 2 = q at *
  rw [Nat.testBit_two_pow_mul_add _ hr]
  conv => lhs; rw [hB0, Nat.testBit_two_pow_mul_add _ hr]
  by_cases hi : i < k
  · have : decide (k = i) = false := decide_eq_false (by omega)
    simp [hi, this]
  · by_cases hk : k = i
    · subst hk
      simp
    · obtain ⟨j, hj⟩ : ∃ j, i - k = j + 1 := ⟨i - k - 1, by omega⟩
      simp [hi, hk, hj, Nat.testBit_succ]
      try (congr 1; omega)
theorem or_bit (B k : Nat) (hB : B < 18446744073709551616) (hk : k < 64) (h0 : ¬ B / 2 ^ k % 2 = 1) : bits .or .u64 (B : Int) (1 * 2 ^ k % 18446744073709551616) = ((B + 2 ^ k : Nat) : Int) ∧ B + 2 ^ k < 18446744073709551616 := by
  have hp : 2 ^ k < 18446744073709551616 := Nat.pow_lt_pow_right (n := 64) (by decide) hk
  have e : ((1 : Int) * 2 ^ k % 18446744073709551616) = ((2 ^ k : Nat) : Int) := by
    have h1 : ((2 ^ k : Nat) : Int) = (2 : Int) ^ k := by simp
    rw [Int.one_mul, ← h1]
    generalize 2 ^ k = z at *
    omega
  have h := u64_or_nat B (2 ^ k) hB hp
  rw [e, h, or_two_pow h0]
  exact ⟨rfl, by rw [← or_two_pow h0]; exact Nat.or_lt_two_pow (n := 64) hB hp⟩
theorem takeB_hi {h id : Int} {B : Nat} (hB : B < 18446744073709551616) (c : id > h) : bits .or .u64 (IntKind.u64.wrap ((B : Int) * 2 ^ min (id - h).toNat 64)) 1 = ((takeB h B id : Nat) : Int) := by
  unfold takeB
  rw [if_pos c, IntKind.wrap_u64]
  exact or_low B _ (by omega)
theorem takeB_lo {h id : Int} {B : Nat} (hB : B < 18446744073709551616) (c : ¬ id > h) (hk : h - id < 64) (h0 : ¬ B / 2 ^ (h - id).toNat % 2 = 1) : bits .or .u64 (B : Int) (IntKind.u64.wrap (2 ^ (h - id).toNat)) = ((takeB h B id : Nat) : Int) := by
  unfold takeB
  rw [if_neg c, IntKind.wrap_u64, ← Int.one_mul ((2 : Int) ^ (h - id).toNat)]
  exact (or_bit B _ hB (by omega) h0).1
theorem judge_ok {h id : Int} {B : Nat} (hj : judgeI h B id = 0) : h - id < 64 ∧ (¬ id > h → ¬ B / 2 ^ (h - id).toNat % 2 = 1) := by
  unfold judgeI at hj
  by_cases a : h - id ≥ 64
  · rw [if_pos a] at hj; omega
  · rw [if_neg a] at hj
    refine ⟨by omega, fun c hb => ?_⟩
    rw [if_pos ⟨by omega, hb⟩] at hj
    omega
theorem take_no (h : Int) (B : Nat) (id : Int) (w : World) (hB : B < 18446744073709551616) (hm : wmay h B = true) (i0 : 1 ≤ id) (i1 : id ≤ 1048575) (hj : judgeI h B id ≠ 0) :
    Calls Tryd.prog 115 #[.agg #[.int .i64 h, .int .u64 (B : Int)], .int .i64 id] w fun e w' => e = .returned (.tuple #[.agg #[.int .i64 0, .int .u64 0], .int .i64 (judgeI h B id)]) ∧ Below w.heap.size w w' := by
  have HJ := Lib.hid (fun w => judge_any h B id w hB hm i0 i1)
  have e1 : (judgeI h B id != 0) = true := bne_iff_ne.mpr hj
  generalize judgeI h B id = j at *
  clear hj hm
  go_enter Tryd.func115, Tryd.ntmps115
  go_wp2_with (fail)
  go_at_call 146
  refine (HJ.out _).mono ?_
  rintro e w1 ⟨rfl, hb⟩
  obtain ⟨bc, bf⟩ := bcell hb
  have hz1 := hb.size
  simp at hz1
  have HB := Lib.hid hb
  clear hb
  have lt1 : w.heap.size < w1.heap.size := by omega
  have lt2 : w.heap.size + 1 < w1.heap.size := by omega
  go_wp2
  refine bodyPost_ret (v := .tuple #[.agg #[.int .i64 0, .int .u64 0], .int .i64 j]) (by simp [results, Tryd.results115, go_sem, bc, lt2]) rfl ⟨rfl, ?_⟩
  have hW := below_then' (blw_alloc (blw_alloc (Below.refl _ _) _) _) HB.out
  repeat (first | with_reducible exact hW | refine Below.setCell ?_ (by first | exact Nat.le_refl _ | exact Nat.le_succ _) _)
theorem take_yes (h : Int) (B : Nat) (id : Int) (w : World) (hB : B < 18446744073709551616) (hm : wmay h B = true) (i0 : 1 ≤ id) (i1 : id ≤ 1048575) (hj : judgeI h B id = 0) :
    Calls Tryd.prog 115 #[.agg #[.int .i64 h, .int .u64 (B : Int)], .int .i64 id] w fun e w' => e = .returned (.tuple #[.agg #[.int .i64 (takeH h id), .int .u64 (takeB h B id : Nat)], .int .i64 0]) ∧ Below w.heap.size w w' := by
  obtain ⟨h0, h1⟩ := wmay_bd hm
  obtain ⟨j0, j1⟩ := judge_ok hj
  have hq := fun w => judge_any h B id w hB hm i0 i1
  rw [hj] at hq
  have HJ := Lib.hid hq
  clear hj hm hq
  by_cases c : id > h
  · have e1 := takeB_hi hB c
    have HH := Lib.hid (show takeH h id = id by unfold takeH; rw [if_pos c])
    rw [HH.out]
    have cc : h ≤ id := by omega
    have cd : (0 : Int) ≤ id - h := by omega
    have ce : Op.shift .shl .u64 (B : Int) .i64 (id - h) = pure (.int .u64 (IntKind.u64.wrap ((B : Int) * 2 ^ min (id - h).toNat 64))) := shift_shl_any _ _ _ _ cd
    generalize takeB h B id = nb at *
    clear j1
    go_enter Tryd.func115, Tryd.ntmps115
    go_wp2_with (fail)
    go_at_call 146
    refine (HJ.out _).mono ?_
    rintro e w1 ⟨rfl, hb⟩
    obtain ⟨bc, bf⟩ := bcell hb
    have hz1 := hb.size
    simp at hz1
    have HB := Lib.hid hb
    clear hb
    have lt1 : w.heap.size < w1.heap.size := by omega
    have lt2 : w.heap.size + 1 < w1.heap.size := by omega
    have ag0 : w1.cell? ⟨w.heap.size, 0, none⟩ = some (.int .i64 h) := by rw [bc _ _ (by first | omega | (simp <;> omega))]; first | with_reducible assumption | go_simp
    have af0 : w1.frozen? ⟨w.heap.size, 0, none⟩ = false := by rw [bf _ _ (by first | omega | (simp <;> omega))]; first | with_reducible assumption | go_simp
    have ag1 : w1.cell? ⟨w.heap.size, 1, none⟩ = some (.int .u64 (B : Int)) := by rw [bc _ _ (by first | omega | (simp <;> omega))]; first | with_reducible assumption | go_simp
    have af1 : w1.frozen? ⟨w.heap.size, 1, none⟩ = false := by rw [bf _ _ (by first | omega | (simp <;> omega))]; first | with_reducible assumption | go_simp
    have bg0 : w1.cell? ⟨w.heap.size + 1, 0, none⟩ = some (.int .i64 0) := by rw [bc _ _ (by first | omega | (simp <;> omega))]; first | with_reducible assumption | go_simp
    have bf0 : w1.frozen? ⟨w.heap.size + 1, 0, none⟩ = false := by rw [bf _ _ (by first | omega | (simp <;> omega))]; first | with_reducible assumption | go_simp
    have bg1 : w1.cell? ⟨w.heap.size + 1, 1, none⟩ = some (.int .u64 0) := by rw [bc _ _ (by first | omega | (simp <;> omega))]; first | with_reducible assumption | go_simp
    have bf1 : w1.frozen? ⟨w.heap.size + 1, 1, none⟩ = false := by rw [bf _ _ (by first | omega | (simp <;> omega))]; first | with_reducible assumption | go_simp
    clear bc bf
    go_wp2
    refine bodyPost_ret (v := .tuple #[.agg #[.int .i64 id, .int .u64 (nb : Int)], .int .i64 0]) (by simp [results, Tryd.results115, go_sem, ag0, ag1, bg0, bg1]) rfl ⟨rfl, ?_⟩
    have hW := below_then' (blw_alloc (blw_alloc (Below.refl _ _) _) _) HB.out
    repeat (first | with_reducible exact hW | refine Below.setCell ?_ (by first | exact Nat.le_refl _ | exact Nat.le_succ _) _)
  · have e1 := takeB_lo hB c j0 (j1 c)
    have HH := Lib.hid (show takeH h id = h by unfold takeH; rw [if_neg c])
    rw [HH.out]
    have cc : id ≤ h := by omega
    have cd : (0 : Int) ≤ h - id := by omega
    have ce : Op.shift .shl .u64 1 .i64 (h - id) = pure (.int .u64 (IntKind.u64.wrap (1 * 2 ^ min (h - id).toNat 64))) := shift_shl_any _ _ _ _ cd
    generalize takeB h B id = nb at *
    clear j1
    go_enter Tryd.func115, Tryd.ntmps115
    go_wp2_with (fail)
    go_at_call 146
    refine (HJ.out _).mono ?_
    rintro e w1 ⟨rfl, hb⟩
    obtain ⟨bc, bf⟩ := bcell hb
    have hz1 := hb.size
    simp at hz1
    have HB := Lib.hid hb
    clear hb
    have lt1 : w.heap.size < w1.heap.size := by omega
    have lt2 : w.heap.size + 1 < w1.heap.size := by omega
    have ag0 : w1.cell? ⟨w.heap.size, 0, none⟩ = some (.int .i64 h) := by rw [bc _ _ (by first | omega | (simp <;> omega))]; first | with_reducible assumption | go_simp
    have af0 : w1.frozen? ⟨w.heap.size, 0, none⟩ = false := by rw [bf _ _ (by first | omega | (simp <;> omega))]; first | with_reducible assumption | go_simp
    have ag1 : w1.cell? ⟨w.heap.size, 1, none⟩ = some (.int .u64 (B : Int)) := by rw [bc _ _ (by first | omega | (simp <;> omega))]; first | with_reducible assumption | go_simp
    have af1 : w1.frozen? ⟨w.heap.size, 1, none⟩ = false := by rw [bf _ _ (by first | omega | (simp <;> omega))]; first | with_reducible assumption | go_simp
    have bg0 : w1.cell? ⟨w.heap.size + 1, 0, none⟩ = some (.int .i64 0) := by rw [bc _ _ (by first | omega | (simp <;> omega))]; first | with_reducible assumption | go_simp
    have bf0 : w1.frozen? ⟨w.heap.size + 1, 0, none⟩ = false := by rw [bf _ _ (by first | omega | (simp <;> omega))]; first | with_reducible assumption | go_simp
    have bg1 : w1.cell? ⟨w.heap.size + 1, 1, none⟩ = some (.int .u64 0) := by rw [bc _ _ (by first | omega | (simp <;> omega))]; first | with_reducible assumption | go_simp
    have bf1 : w1.frozen? ⟨w.heap.size + 1, 1, none⟩ = false := by rw [bf _ _ (by first | omega | (simp <;> omega))]; first | with_reducible assumption | go_simp
    clear bc bf
    go_wp2
    go_region
    all_goals
      go_wp2
      refine bodyPost_ret (v := .tuple #[.agg #[.int .i64 h, .int .u64 (nb : Int)], .int .i64 0]) (by simp [results, Tryd.results115, go_sem, ag0, ag1, bg0, bg1]) rfl ⟨rfl, ?_⟩
      have hW := below_then' (blw_alloc (blw_alloc (Below.refl _ _) _) _) HB.out
      repeat (first | with_reducible exact hW | refine blw_step ?_ _ | refine Below.drew ?_ | refine Below.setCell ?_ (by first | exact Nat.le_refl _ | exact Nat.le_succ _) _)
end Go.Proofs.YtccjcdecpgigpaaDoor.Win
