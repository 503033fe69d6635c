/- Plain laws of windows: which numbers are known. -/
import Derived.Test.YtccjcdecpgigpaaDoorWin
namespace Go.Proofs.YtccjcdecpgigpaaDoor.Win
open Go.RowKit Go.Proofs.YtccjcdecpgigpaaDoor.Base
set_option linter.unusedVariables false
set_option linter.unusedSimpArgs false
set_option maxRecDepth 20000

theorem tb_iff (B i : Nat) : B / 2 ^ i % 2 = 1 ↔ B.testBit i = true := by
  rw [Nat.testBit_eq_decide_div_mod_eq, decide_eq_true_eq]
theorem hi_join (B m : Nat) (hm : 1 ≤ m) : B * 2 ^ m % 18446744073709551616 + 1 = (B * 2 ^ m % 2 ^ 64) ||| 1 := by
  rw [nat_join 1 _ 1 ?_ (by decide)]
  obtain ⟨j, rfl⟩ : ∃ j, m = j + 1 := ⟨m - 1, by omega⟩
  rw [Nat.pow_succ, ← Nat.mul_assoc]
  omega
theorem hi_bits (B m i : Nat) (hm : 1 ≤ m) (hi : i < 64) : (B * 2 ^ m % 18446744073709551616 + 1).testBit i = (decide (i = 0) || (decide (m ≤ i) && B.testBit (i - m))) := by
  rw [hi_join B m hm, Nat.testBit_or, Nat.testBit_mod_two_pow, ← Nat.shiftLeft_eq, Nat.testBit_shiftLeft]
  have h1 : (1 : Nat).testBit i = decide (i = 0) := by
    rw [show (1 : Nat) = 2 ^ 0 from rfl, Nat.testBit_two_pow]
    simp [eq_comm]
  rw [h1, decide_eq_true hi, Bool.true_and, Bool.or_comm]
theorem hi_lt (B m : Nat) (hm : 1 ≤ m) : B * 2 ^ m % 18446744073709551616 + 1 < 18446744073709551616 := by
  rw [hi_join B m hm]
  exact Nat.or_lt_two_pow (n := 64) (Nat.mod_lt _ (by decide)) (by decide)
/-- The window (h, B) knows just the numbers 'had'. -/
structure InvW (h : Int) (B : Nat) (had : List Int) : Prop where
  may : wmay h B = true
  lt : B < 18446744073709551616
  bit : ∀ i : Nat, i < 64 → (B.testBit i = true ↔ h - (i : Int) ∈ had)
  rng : ∀ x ∈ had, 1 ≤ x ∧ x ≤ h
theorem inv_nil : InvW 0 0 [] := ⟨rfl, by decide, fun i hi => by simp, fun x hx => by simp at hx⟩
theorem judge_inv {h : Int} {B : Nat} {had : List Int} (H : InvW h B had) (id : Int) : judgeI h B id = if id ≤ h - 64 then 13 else if id ∈ had then 14 else 0 := by
  unfold judgeI
  by_cases a : h - id ≥ 64
  · rw [if_pos a, if_pos (show id ≤ h - 64 by omega)]
  · rw [if_neg a, if_neg (show ¬ id ≤ h - 64 by omega)]
    by_cases b : h - id ≥ 0
    · have hb := H.bit (h - id).toNat (by omega)
      rw [← tb_iff, show h - ((h - id).toNat : Int) = id by omega] at hb
      by_cases c : id ∈ had
      · rw [if_pos ⟨b, hb.2 c⟩, if_pos c]
      · rw [if_neg (fun x => c (hb.1 x.2)), if_neg c]
    · rw [if_neg (fun x => b x.1), if_neg]
      intro hc
      have := H.rng id hc
      omega
theorem wmay_mk {h : Int} {B : Nat} (h1 : 1 ≤ h) (h2 : h ≤ 1048575) (h3 : B.testBit 0 = true) (h4 : B < 2 ^ (min h.toNat 64)) : wmay h B = true := by
  unfold wmay
  rw [if_neg (by omega)]
  rw [← tb_iff] at h3
  simp at h3
  simp [h2, h3, h4]
theorem inv_take {h : Int} {B : Nat} {had : List Int} (H : InvW h B had) (id : Int) (i0 : 1 ≤ id) (i1 : id ≤ 1048575) (hj : judgeI h B id = 0) : InvW (takeH h id) (takeB h B id) (had ++ [id]) := by
  obtain ⟨h0, h1⟩ := wmay_bd H.may
  obtain ⟨j0, j1⟩ := judge_ok hj
  have hlt := H.lt
  by_cases c : id > h
  · have e1 : takeH h id = id := by unfold takeH; rw [if_pos c]
    have e2 : takeB h B id = B * 2 ^ (min (id - h).toNat 64) % 18446744073709551616 + 1 := by unfold takeB; rw [if_pos c]
    have hm : 1 ≤ min (id - h).toNat 64 := by omega
    rw [e1, e2]
    refine ⟨wmay_mk i0 i1 ?_ ?_, hi_lt B _ hm, fun i hi => ?_, fun x hx => ?_⟩
    · rw [hi_bits B _ 0 hm (by decide)]; rfl
    · by_cases c64 : 64 ≤ id
      · rw [show min id.toNat 64 = 64 by omega]
        exact hi_lt B _ hm
      · rw [show min id.toNat 64 = id.toNat by omega]
        have hBh : B < 2 ^ h.toNat := by
          rcases wmay_nonneg H.may with ⟨rfl, rfl⟩ | hh
          · decide
          · have := (wmay_pos H.may hh).2.2
            rwa [show min h.toNat 64 = h.toNat by omega] at this
        have hmm : min (id - h).toNat 64 = (id - h).toNat := by omega
        rw [hmm]
        have hprod : B * 2 ^ (id - h).toNat < 2 ^ id.toNat := by
          rw [show id.toNat = h.toNat + (id - h).toNat by omega, Nat.pow_add]
          exact Nat.mul_lt_mul_of_pos_right hBh (Nat.two_pow_pos _)
        have hp64 : 2 ^ id.toNat < 18446744073709551616 := Nat.pow_lt_pow_right (n := 64) (by decide) (by omega)
        rw [hmm] at hm
        rw [hi_join B _ hm, Nat.mod_eq_of_lt (Nat.lt_trans hprod hp64)]
        exact Nat.or_lt_two_pow hprod (Nat.one_lt_two_pow (by omega))
    · rw [hi_bits B _ i hm hi]
      simp only [Bool.or_eq_true, Bool.and_eq_true, decide_eq_true_eq, List.mem_append, List.mem_singleton]
      constructor
      · rintro (rfl | ⟨a, b⟩)
        · right; omega
        · left
          have := (H.bit (i - min (id - h).toNat 64) (by omega)).1 b
          rwa [show h - ((i - min (id - h).toNat 64 : Nat) : Int) = id - (i : Int) by omega] at this
      · rintro (a | a)
        · right
          have hr := H.rng _ a
          refine ⟨by omega, (H.bit (i - min (id - h).toNat 64) (by omega)).2 ?_⟩
          rwa [show h - ((i - min (id - h).toNat 64 : Nat) : Int) = id - (i : Int) by omega]
        · left; omega
    · rcases List.mem_append.1 hx with a | a
      · have := H.rng x a; omega
      · simp at a; omega
  · have hk := j1 c
    have e1 : takeH h id = h := by unfold takeH; rw [if_neg c]
    have e2 : takeB h B id = B ||| 2 ^ (h - id).toNat := by unfold takeB; rw [if_neg c, or_two_pow hk]
    have hh : 1 ≤ h := by omega
    obtain ⟨_, _, w3⟩ := wmay_pos H.may hh
    have w2 : B.testBit 0 = true := by
      have := (wmay_pos H.may hh).2.1
      rw [← tb_iff]
      simpa using this
    rw [e1, e2]
    refine ⟨wmay_mk hh h1 (by rw [Nat.testBit_or, w2]; rfl) (Nat.or_lt_two_pow w3 (Nat.pow_lt_pow_right (by decide) (by omega))), Nat.or_lt_two_pow (n := 64) hlt (Nat.pow_lt_pow_right (by decide) (by omega)), fun i hi => ?_, fun x hx => ?_⟩
    · rw [Nat.testBit_or, Nat.testBit_two_pow]
      simp only [Bool.or_eq_true, decide_eq_true_eq, List.mem_append, List.mem_singleton]
      rw [H.bit i hi]
      constructor
      · rintro (a | a)
        · exact .inl a
        · right; omega
      · rintro (a | a)
        · exact .inl a
        · right; omega
    · rcases List.mem_append.1 hx with a | a
      · exact H.rng x a
      · simp at a; omega
end Go.Proofs.YtccjcdecpgigpaaDoor.Win
