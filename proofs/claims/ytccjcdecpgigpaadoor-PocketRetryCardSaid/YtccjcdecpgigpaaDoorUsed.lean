/- The contract of window.Used. -/
import Derived.Test.YtccjcdecpgigpaaDoorWinP
namespace Go.Proofs.YtccjcdecpgigpaaDoor.Win
open Go.RowKit Go.Proofs.YtccjcdecpgigpaaDoor.Base
set_option linter.unusedVariables false
set_option linter.unusedSimpArgs false
set_option maxRecDepth 20000
theorem info_int : (Tryd.prog.info? 3).map (fun i => (i.zero, i.size, i.bytes)) = some (some (.int .i64 0), 1, 8) := by kernel_rfl
theorem own_after {B : Nat} {e : TypeId} {k : Nat} {v : Value} {n : Nat} {xs : List Value} {w w' : World} (h : w.ownsRow B e k v n xs) (hb : Below w.heap.size w w') : w'.ownsRow B e k v n xs :=
  h.kept (row := none) ⟨hb.os, hb.tape, hb.output, hb.size, fun j hj _ => hb.block j hj⟩ (by cases hv : v.ownBlock <;> simp)
theorem own_mono {B B' : Nat} {e : TypeId} {k : Nat} {v : Value} {n : Nat} {xs : List Value} {w : World} (h : w.ownsRow B e k v n xs) (hb : B' ≤ B) : w.ownsRow B' e k v n xs :=
  ⟨h.1, h.2.imp (fun x => x) (fun ⟨g, cap, cur, h1, h2, h3⟩ => ⟨g, cap, cur, h1, Nat.le_trans hb h2, h3⟩)⟩
/-- The numbers of the bits below n, the highest bit first. -/
def upL (h : Int) (B : Nat) : Nat → List Int
  | 0 => []
  | n + 1 => (if B.testBit n then [h - (n : Int)] else []) ++ upL h B n
theorem upL_len (h : Int) (B : Nat) : ∀ n, (upL h B n).length ≤ n
  | 0 => Nat.le_refl _
  | n + 1 => by
    have := upL_len h B n
    simp only [upL, List.length_append]
    split <;> simp <;> omega
theorem upL_congr (h : Int) (B C : Nat) : ∀ n, (∀ i, i < n → B.testBit i = C.testBit i) → upL h B n = upL h C n
  | 0, _ => rfl
  | n + 1, hc => by
    simp only [upL]
    rw [hc n (by omega), upL_congr h B C n (fun i hi => hc i (by omega))]
theorem upL_high (h : Int) (B m : Nat) (hB : B < 2 ^ m) : ∀ n, m ≤ n → upL h B n = upL h B m
  | 0, hn => by
    obtain rfl : m = 0 := by omega
    rfl
  | n + 1, hn => by
    by_cases e : m = n + 1
    · subst e; rfl
    · simp only [upL]
      have : B.testBit n = false := Nat.testBit_lt_two_pow (Nat.lt_of_lt_of_le hB (Nat.pow_le_pow_right (by decide) (by omega)))
      rw [this, upL_high h B m hB n (by omega)]
      simp
theorem top_bits (b : Nat) (h0 : b ≠ 0) (hb : b < 18446744073709551616) : 1 ≤ Lib.bitLen b ∧ Lib.bitLen b ≤ 64 ∧ 2 ^ (Lib.bitLen b - 1) ≤ b ∧ b < 2 ^ (Lib.bitLen b - 1 + 1) := by
  have h := Lib.bitLenAux_bounds 64 b hb h0
  have h64 : Lib.bitLen b ≤ 64 := Lib.bitLen_le b 64 (by decide) hb
  have e : Lib.bitLen b - 1 + 1 = Lib.bitLen b := by have := h.1; show Lib.bitLenAux 64 b - 1 + 1 = Lib.bitLenAux 64 b; omega
  exact ⟨h.1, h64, h.2.1, by rw [e]; exact h.2.2⟩
theorem top_rest {b t : Nat} (h1 : 2 ^ t ≤ b) (h2 : b < 2 ^ (t + 1)) : b = (b - 2 ^ t) ||| 2 ^ t ∧ b - 2 ^ t < 2 ^ t ∧ b.testBit t = true := by
  have hp : 2 ^ (t + 1) = 2 ^ t + 2 ^ t := by rw [Nat.pow_succ]; omega
  have hc : b - 2 ^ t < 2 ^ t := by omega
  have hn : ¬ (b - 2 ^ t) / 2 ^ t % 2 = 1 := by rw [Nat.div_eq_of_lt hc]; decide
  have hj := or_two_pow hn
  have he : b = (b - 2 ^ t) ||| 2 ^ t := by rw [hj]; omega
  refine ⟨he, hc, ?_⟩
  rw [he, Nat.testBit_or, Nat.testBit_two_pow_self]
  simp
theorem clear_top {b t : Nat} (ht : t < 64) (h1 : 2 ^ t ≤ b) (h2 : b < 2 ^ (t + 1)) : bits .andNot .u64 (b : Int) (IntKind.u64.wrap (2 ^ t)) = ((b - 2 ^ t : Nat) : Int) := by
  obtain ⟨he, hc, _⟩ := top_rest h1 h2
  have hp : 2 ^ t < 18446744073709551616 := Nat.pow_lt_pow_right (n := 64) (by decide) ht
  have hb : b < 18446744073709551616 := Nat.lt_of_lt_of_le h2 (Nat.pow_le_pow_right (n := 2) (by decide) (by omega : t + 1 ≤ 64))
  have hw : IntKind.u64.wrap ((2 : Int) ^ t) = ((2 ^ t : Nat) : Int) := by
    rw [IntKind.wrap_u64]
    have e1 : ((2 ^ t : Nat) : Int) = (2 : Int) ^ t := by simp
    rw [← e1]
    generalize 2 ^ t = z at *
    omega
  rw [hw, u64_andNot_nat b (2 ^ t) hb hp]
  congr 1
  generalize hcc : b - 2 ^ t = c at *
  apply Nat.eq_of_testBit_eq
  intro i
  rw [Nat.testBit_and, show 18446744073709551615 - 2 ^ t = 2 ^ 64 - (2 ^ t + 1) by omega, Nat.testBit_two_pow_sub_succ hp, Nat.testBit_two_pow]
  by_cases hi : t = i
  · subst hi
    have : c.testBit t = false := Nat.testBit_lt_two_pow hc
    simp [this]
  · rw [he, Nat.testBit_or, Nat.testBit_two_pow]
    by_cases h64 : i < 64
    · simp [hi, h64]
    · have : c.testBit i = false := Nat.testBit_lt_two_pow (Nat.lt_of_lt_of_le hc (Nat.pow_le_pow_right (by decide) (by omega)))
      simp [hi, this]
theorem upL_step (h : Int) {b : Nat} (h0 : b ≠ 0) (hb : b < 18446744073709551616) : upL h b 64 = [h - ((Lib.bitLen b - 1 : Nat) : Int)] ++ upL h (b - 2 ^ (Lib.bitLen b - 1)) 64 := by
  obtain ⟨a1, a2, a3, a4⟩ := top_bits b h0 hb
  generalize Lib.bitLen b - 1 = t at *
  obtain ⟨he, hc, ht⟩ := top_rest a3 a4
  have ht64 : t < 64 := by
    apply Decidable.byContradiction
    intro h
    have : 18446744073709551616 ≤ 2 ^ t := Nat.pow_le_pow_right (n := 2) (by decide) (by omega : 64 ≤ t)
    omega
  rw [upL_high h b (t + 1) a4 64 (by omega), upL_high h (b - 2 ^ t) t hc 64 (by omega)]
  simp only [upL, ht, if_true]
  congr 1
  refine upL_congr h _ _ t fun i hi => ?_
  conv => lhs; rw [he]
  rw [Nat.testBit_or, Nat.testBit_two_pow]
  have : decide (t = i) = false := decide_eq_false (by omega)
  rw [this, Bool.or_false]
theorem upL_mem (h : Int) (B : Nat) (x : Int) : ∀ n, x ∈ upL h B n ↔ ∃ i, i < n ∧ B.testBit i = true ∧ x = h - (i : Int)
  | 0 => by simp [upL]
  | n + 1 => by
    simp only [upL, List.mem_append, upL_mem h B x n]
    constructor
    · rintro (a | ⟨i, h1, h2, h3⟩)
      · split at a
        · exact ⟨n, by omega, by assumption, by simpa using a⟩
        · simp at a
      · exact ⟨i, by omega, h2, h3⟩
    · rintro ⟨i, h1, h2, h3⟩
      by_cases e : i = n
      · subst e; left; rw [if_pos h2]; simp [h3]
      · exact .inr ⟨i, by omega, h2, h3⟩
theorem upL_sorted (h : Int) (B : Nat) : ∀ n, (upL h B n).Pairwise (· < ·)
  | 0 => List.Pairwise.nil
  | n + 1 => by
    simp only [upL]
    refine List.pairwise_append.2 ⟨by split <;> simp, upL_sorted h B n, fun a ha b hb => ?_⟩
    obtain ⟨i, h1, _, h3⟩ := (upL_mem h B b n).1 hb
    split at ha
    · simp at ha; omega
    · simp at ha

set_option maxHeartbeats 1000000 in
theorem used_any (h : Int) (B : Nat) (w : World) (hm : wmay h B = true) (hB : B < 18446744073709551616) :
    Calls Tryd.prog 113 #[.agg #[.int .i64 h, .int .u64 (B : Int)]] w fun e w' => ∃ A c, e = .returned (.tuple #[.slice A (upL h B 64).length c, .int .i64 0]) ∧ w'.ownsRow w.heap.size 3 1 (.slice A (upL h B 64).length c) (upL h B 64).length ((upL h B 64).flatMap Base.encI) ∧ Below w.heap.size w w' := by
  obtain ⟨b0, b1⟩ := wmay_bd hm
  have hmay := fun w => may_any h B w (by omega) (by omega) hB
  rw [hm] at hmay
  have HM := Lib.hid hmay
  clear hmay hm
  go_enter Tryd.func113, Tryd.ntmps113
  go_wp2_with (fail)
  go_at_call 145
  refine (HM.out _).mono ?_
  rintro e w1 ⟨rfl, hb⟩
  obtain ⟨bc, bf⟩ := bcell hb
  have hz1 := hb.size
  simp at hz1
  have HB1 := Lib.hid (below_then' (blw_alloc (Below.refl _ _) _) hb)
  clear hb
  have lt1 : w.heap.size < w1.heap.size := by omega
  go_wp2
  go_loopw [4, 5] (fun v bv wr => ∃ (out : List Int) (b : Nat), bv = .int .u64 (b : Int) ∧ b < 18446744073709551616 ∧ out ++ upL h b 64 = upL h B 64 ∧ wr.ownsRow (w.heap.size + 1) 3 1 v out.length (out.flatMap Base.encI) ∧ Below w.heap.size w wr ∧ w.heap.size < wr.heap.size ∧ wr.cell? ⟨w.heap.size, 0, none⟩ = some (.int .i64 h)) (fun _ bv _ => (intOf bv).toNat)
  case atStart => exact ⟨[], B, rfl, hB, rfl, World.ownsRow_nil _ _ _ _, HB1.out, lt1, by rw [bc _ _ (by simp)]; go_simp⟩
  case round =>
    obtain ⟨out, b, rfl, hbl, heq, ho, hbw, lt2, c0⟩ := hrel
    have HO := Lib.hid ho
    have HE := Lib.hid heq
    have HB := Lib.hid hbw
    clear ho heq hbw bc bf
    have hlen : out.length ≤ 64 := by
      have h1 := upL_len h B 64
      rw [← HE.out, List.length_append] at h1
      omega
    by_cases hz : b = 0
    · subst hz
      have hnil : upL h 0 64 = [] := by
        have : ∀ n, upL h 0 n = [] := by
          intro n
          induction n with
          | zero => rfl
          | succ n ih => simp [upL, ih]
        exact this 64
      have he := HE.out
      rw [hnil, List.append_nil] at he
      obtain ⟨A1, c1, rfl, _⟩ := own_read (enc := Base.encI) (fun _ => rfl) (by decide) HO.out
      have HE2 := Lib.hid he
      clear he hnil
      go_wp2
      go_ret2
      refine ⟨A1, c1, by rw [← HE2.out]; rfl, ?_, HB.out⟩
      rw [← HE2.out]
      exact own_mono HO.out (by omega)
    · have hz' : ((b : Int) != 0) = true := bne_iff_ne.mpr (by omega)
      obtain ⟨t1, t2, t3, t4⟩ := top_bits b hz hbl
      have hst := upL_step h hz hbl
      have hct := clear_top (by omega) t3 t4
      have HST := Lib.hid hst
      have T3 := Lib.hid t3
      have htop : ((Lib.bitLen b : Int) - 1) = ((Lib.bitLen b - 1 : Nat) : Int) := by omega
      have hc0 : (0 : Int) ≤ (Lib.bitLen b : Int) - 1 := by omega
      have hbt : (b : Int).toNat = b := by omega
      have hl64 := len64_any (b : Int)
      rw [hbt] at hl64
      generalize Lib.bitLen b = t at *
      obtain ⟨s, rfl⟩ : ∃ s, t = s + 1 := ⟨t - 1, by omega⟩
      simp only [Nat.add_sub_cancel] at *
      have hs64 : s < 64 := by omega
      have hl : ∀ w, Calls Tryd.prog 119 #[.int .u64 (b : Int)] w fun e w' => e = .returned (.int .i64 ((s : Int) + 1)) ∧ w = w' := fun w => by
        have := hl64 w (by omega) (by omega)
        rwa [show ((s + 1 : Nat) : Int) = (s : Int) + 1 by omega] at this
      have HL := Lib.hid hl
      have HZ := Lib.hid hz
      clear hl hl64 hz t4 t3 hst htop hc0 hbt
      have ce : Op.shift .shl .u64 1 .i64 (s : Int) = pure (.int .u64 (IntKind.u64.wrap (1 * 2 ^ min ((s : Int)).toNat 64))) := shift_shl_any _ _ _ _ (by omega)
      go_wp2_with (first | (go_at_call 119; refine (HL.out _).mono ?_; rintro e w' ⟨rfl, rfl⟩) | (at_builtin; refine app1 (w0 := wr) (w.heap.size + 1) rfl (.tmp 17) (.tmp 22) 89 3 (.int .i64 0) 1 8 rfl Tryd.underlying89 info_int rfl (by decide) (by decide) _ out.length (out.flatMap Base.encI) [.int .i64 (h - (s : Int))] rfl rfl rfl ?c1 HO.out (Below.refl _ _) (by omega) ?c2 ?_; (case c1 => simp [Value.oneCell']); (case c2 => omega); intro v1 w2 ho2 hb2 _ _; have HO2 := Lib.hid ho2; have HB2 := Lib.hid hb2; have hz2 := hb2.size; have d0 := hb2.cell (p := ⟨w.heap.size, 0, none⟩) (by simp); clear ho2 hb2))
      go_roundw
      case rel =>
        refine ⟨out ++ [h - (s : Int)], b - 2 ^ s, rfl, Nat.lt_of_le_of_lt (Nat.sub_le _ _) hbl, ?_, ?_, HB.out.trans (HB2.out.mono (by omega)), by omega, by rw [d0]; exact c0⟩
        · rw [List.append_assoc, ← HST.out]; exact HE.out
        · rw [List.length_append, List.flatMap_append]; exact HO2.out
      case measure =>
        have := T3.out
        have hp := Nat.two_pow_pos s
        simp [intOf]
        omega
end Go.Proofs.YtccjcdecpgigpaaDoor.Win
