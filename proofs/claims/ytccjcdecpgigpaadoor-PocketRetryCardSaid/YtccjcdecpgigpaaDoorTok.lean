/- Contracts of token.bounds, fault, Body. -/
import Derived.Test.YtccjcdecpgigpaaDoorBase
import Derived.Test.YtccjcdecpgigpaaDoorApp
import Derived.Laws.BitsAllLaws
namespace Go.Proofs.YtccjcdecpgigpaaDoor.Tok
open Go.RowKit Go.Proofs.YtccjcdecpgigpaaDoor.Base
set_option linter.unusedVariables false
set_option linter.unusedSimpArgs false
set_option maxRecDepth 20000
structure Tk where
  cl : Int
  id : Int
  am : Int
  tag : Int
def i64 (n : Int) : Prop := -9223372036854775808 ≤ n ∧ n ≤ 9223372036854775807
def Tk.ok (t : Tk) : Prop := (i64 t.cl ∧ i64 t.id) ∧ i64 t.am ∧ i64 t.tag
def Tk.vals (t : Tk) : Array Value := #[.int .i64 t.cl, .int .i64 t.id, .int .i64 t.am, .int .i64 t.tag]
def amLo (c : Int) : Int := if c = 0 ∨ c = 2 then 1 else 0
def amHi (c : Int) : Int := if c = 0 then 2097151 else if c = 2 then 15 else 0
def clok (c : Int) : Prop := 0 ≤ c ∧ c ≤ 3
instance (c : Int) : Decidable (clok c) := by unfold clok; infer_instance
def inb (t : Tk) : Prop := (1 ≤ t.id ∧ t.id ≤ 1048575) ∧ (amLo t.cl ≤ t.am ∧ t.am ≤ amHi t.cl) ∧ 0 ≤ t.tag ∧ t.tag ≤ 65535
instance (t : Tk) : Decidable (inb t) := by unfold inb; infer_instance
def faultI (t : Tk) : Int := if clok t.cl then if inb t then 0 else 2 else 9
def bodyI (t : Tk) : Int := (t.cl * 1048576 + t.id) * 2097152 + t.am
theorem i64_or_nat (a b : Nat) (ha : a < 9223372036854775808) (hb : b < 9223372036854775808) : bits .or .i64 (a : Int) (b : Int) = ((a ||| b : Nat) : Int) := by
  have hx : a ||| b < 2 ^ 63 := Nat.or_lt_two_pow (by omega) (by omega)
  show IntKind.i64.wrap ((BitVec.ofInt 64 (a : Int) ||| BitVec.ofInt 64 (b : Int)).toNat : Int) = _
  rw [BitVec.toNat_or, ofInt_u64 a (by omega), ofInt_u64 b (by omega), IntKind.wrap_i64]
  omega
theorem or_join (k : Nat) (a b : Int) (hk : k ≤ 40) (a0 : 0 ≤ a) (a1 : a * 2 ^ k + 2 ^ k ≤ 4611686018427387904) (b0 : 0 ≤ b) (b1 : b < 2 ^ k) : bits .or .i64 (a * 2 ^ k) b = a * 2 ^ k + b := by
  obtain ⟨A, rfl⟩ := Int.eq_ofNat_of_zero_le a0
  obtain ⟨B, rfl⟩ := Int.eq_ofNat_of_zero_le b0
  have e : ((A : Int) * 2 ^ k) = ((A * 2 ^ k : Nat) : Int) := by simp
  have e2 : ((2 : Int) ^ k) = ((2 ^ k : Nat) : Int) := by simp
  rw [e, e2] at a1
  rw [e2] at b1
  have hp : 0 < 2 ^ k := Nat.two_pow_pos k
  generalize hq : A * 2 ^ k = q at *
  have hm : q % 2 ^ k = 0 := by rw [← hq]; exact Nat.mul_mod_left _ _
  rw [e, i64_or_nat q B (by omega) (by omega), nat_join k q B hm (by omega)]
  simp
theorem fault_any (t : Tk) (w : World) : Calls Tryd.prog 44 #[.agg t.vals] w fun e w' => e = .returned (.int .i64 (faultI t)) ∧ Below w.heap.size w w' := by
  have hb : ∀ w, Calls Tryd.prog 94 #[.int .i64 t.cl] w fun e w' => e = .returned (.tuple #[.int .i64 (if clok t.cl then amLo t.cl else 0), .int .i64 (if clok t.cl then amHi t.cl else 0), .bool (decide (clok t.cl))]) ∧ w = w' := by
    intro w
    by_cases hc : clok t.cl
    · have : t.cl = 0 ∨ t.cl = 1 ∨ t.cl = 2 ∨ t.cl = 3 := by unfold clok at hc; omega
      rcases this with h | h | h | h
      · rw [h]
        go_enter Tryd.func94, Tryd.ntmps94
        go_wp2
        exact bodyPost_ret (v := .tuple #[.int .i64 1, .int .i64 2097151, .bool true]) (by simp [results, Tryd.results94, go_sem]) rfl ⟨rfl, rfl⟩
      · rw [h]
        go_enter Tryd.func94, Tryd.ntmps94
        go_wp2
        exact bodyPost_ret (v := .tuple #[.int .i64 0, .int .i64 0, .bool true]) (by simp [results, Tryd.results94, go_sem]) rfl ⟨rfl, rfl⟩
      · rw [h]
        go_enter Tryd.func94, Tryd.ntmps94
        go_wp2
        exact bodyPost_ret (v := .tuple #[.int .i64 1, .int .i64 15, .bool true]) (by simp [results, Tryd.results94, go_sem]) rfl ⟨rfl, rfl⟩
      · rw [h]
        go_enter Tryd.func94, Tryd.ntmps94
        go_wp2
        exact bodyPost_ret (v := .tuple #[.int .i64 0, .int .i64 0, .bool true]) (by simp [results, Tryd.results94, go_sem]) rfl ⟨rfl, rfl⟩
    · rw [if_neg hc, if_neg hc, decide_eq_false hc]
      have h0 : (t.cl == 0) = false := beq_eq_false_iff_ne.mpr (by unfold clok at hc; omega)
      have h1 : (t.cl == 1) = false := beq_eq_false_iff_ne.mpr (by unfold clok at hc; omega)
      have h2 : (t.cl == 2) = false := beq_eq_false_iff_ne.mpr (by unfold clok at hc; omega)
      have h3 : (t.cl == 3) = false := beq_eq_false_iff_ne.mpr (by unfold clok at hc; omega)
      clear hc
      generalize t.cl = c at *
      go_enter Tryd.func94, Tryd.ntmps94
      go_wp2
      exact bodyPost_ret (v := .tuple #[.int .i64 0, .int .i64 0, .bool false]) (by simp [results, Tryd.results94, go_sem]) rfl ⟨rfl, rfl⟩
  have hf : faultI t = if clok t.cl then if inb t then 0 else 2 else 9 := rfl
  by_cases hc : clok t.cl
  · rw [if_pos hc] at hf
    simp only [if_pos hc, decide_eq_true hc] at hb
    obtain ⟨lo, hlo⟩ : ∃ l, l = amLo t.cl := ⟨_, rfl⟩
    obtain ⟨hi, hhi⟩ : ∃ l, l = amHi t.cl := ⟨_, rfl⟩
    have hin : inb t ↔ (1 ≤ t.id ∧ t.id ≤ 1048575) ∧ (lo ≤ t.am ∧ t.am ≤ hi) ∧ 0 ≤ t.tag ∧ t.tag ≤ 65535 := by rw [hlo, hhi]; exact Iff.rfl
    rw [← hlo, ← hhi] at hb
    obtain ⟨cl, id, am, tag⟩ := t
    unfold Tk.vals
    simp only at *
    have HB := Lib.hid hb
    by_cases hi0 : inb ⟨cl, id, am, tag⟩
    · rw [if_pos hi0] at hf
      rw [hf]
      obtain ⟨⟨a0, a1⟩, ⟨b0, b1⟩, c0, c1⟩ := hin.1 hi0
      clear hin hi0 hf hlo hhi hb hc
      go_enter Tryd.func44, Tryd.ntmps44
      go_wp2_with (fail)
      go_at_call 94
      refine (HB.out _).mono ?_
      rintro e w1 ⟨rfl, rfl⟩
      go_wp2
      go_ret
      exact ⟨rfl, blw_alloc (Below.refl _ _) _⟩
    · rw [if_neg hi0] at hf
      rw [hf]
      have hn : ¬ ((1 ≤ id ∧ id ≤ 1048575) ∧ (lo ≤ am ∧ am ≤ hi) ∧ 0 ≤ tag ∧ tag ≤ 65535) := fun h => hi0 (hin.2 h)
      have HN := Lib.hid hn
      clear hn
      clear hin hi0 hf hlo hhi hb hc
      go_enter Tryd.func44, Tryd.ntmps44
      go_wp2_with (fail)
      go_at_call 94
      refine (HB.out _).mono ?_
      rintro e w1 ⟨rfl, rfl⟩
      go_wp2
      all_goals first
        | (exfalso; have := HN.out; omega)
        | (go_ret; exact ⟨rfl, blw_alloc (Below.refl _ _) _⟩)
  · rw [if_neg hc] at hf
    rw [hf]
    simp only [if_neg hc, decide_eq_false hc] at hb
    obtain ⟨cl, id, am, tag⟩ := t
    unfold Tk.vals
    simp only at *
    have HB := Lib.hid hb
    clear hf hb hc
    go_enter Tryd.func44, Tryd.ntmps44
    go_wp2_with (fail)
    go_at_call 94
    refine (HB.out _).mono ?_
    rintro e w1 ⟨rfl, rfl⟩
    go_wp2
    go_ret
    exact ⟨rfl, blw_alloc (Below.refl _ _) _⟩
theorem fault_ok {t : Tk} (h : faultI t = 0) : clok t.cl ∧ inb t := by
  unfold faultI at h
  split at h
  · split at h
    · exact ⟨‹_›, ‹_›⟩
    · cases h
  · cases h
theorem body_any (t : Tk) (w : World) : Calls Tryd.prog 72 #[.agg t.vals] w fun e w' => e = .returned (.tuple #[.int .i64 (if faultI t = 0 then bodyI t else 0), .int .i64 (faultI t)]) ∧ Below w.heap.size w w' := by
  have HF := Lib.hid (fun w => fault_any t w)
  by_cases h : faultI t = 0
  · rw [if_pos h]
    obtain ⟨hc, hi⟩ := fault_ok h
    rw [h] at HF ⊢
    have hbd : bodyI t = (t.cl * 1048576 + t.id) * 2097152 + t.am := rfl
    obtain ⟨c0, c1⟩ := hc
    obtain ⟨⟨i0, i1⟩, ⟨a0, a1⟩, g0, g1⟩ := hi
    have l0 : 0 ≤ amLo t.cl := by unfold amLo; split <;> omega
    have l1 : amHi t.cl ≤ 2097151 := by unfold amHi; split <;> (try split) <;> omega
    have am0 : 0 ≤ t.am := by omega
    have am1 : t.am ≤ 2097151 := by omega
    clear h a0 a1 l0 l1
    generalize bodyI t = bd at *
    obtain ⟨cl, id, am, tag⟩ := t
    unfold Tk.vals at HF ⊢
    simp only at *
    go_enter Tryd.func72, Tryd.ntmps72
    go_wp2_with (fail)
    go_at_call 44
    refine (HF.out _).mono ?_
    rintro e w1 ⟨rfl, hb⟩
    obtain ⟨bc, bf⟩ := bcell hb
    have hz1 := hb.size
    simp at hz1
    have HB := Lib.hid (below_then' (blw_alloc (Below.refl _ _) _) hb)
    have lt1 : w.heap.size < w1.heap.size := by omega
    have ag0 : w1.cell? ⟨w.heap.size, 0, none⟩ = some (.int .i64 cl) := by rw [bc _ _ (by first | omega | (simp <;> omega))]; first | with_reducible assumption | go_simp
    have af0 : w1.frozen? ⟨w.heap.size, 0, none⟩ = false := by rw [bf _ _ (by first | omega | (simp <;> omega))]; first | with_reducible assumption | go_simp
    have ag1 : w1.cell? ⟨w.heap.size, 1, none⟩ = some (.int .i64 id) := by rw [bc _ _ (by first | omega | (simp <;> omega))]; first | with_reducible assumption | go_simp
    have af1 : w1.frozen? ⟨w.heap.size, 1, none⟩ = false := by rw [bf _ _ (by first | omega | (simp <;> omega))]; first | with_reducible assumption | go_simp
    have ag2 : w1.cell? ⟨w.heap.size, 2, none⟩ = some (.int .i64 am) := by rw [bc _ _ (by first | omega | (simp <;> omega))]; first | with_reducible assumption | go_simp
    have af2 : w1.frozen? ⟨w.heap.size, 2, none⟩ = false := by rw [bf _ _ (by first | omega | (simp <;> omega))]; first | with_reducible assumption | go_simp
    have ag3 : w1.cell? ⟨w.heap.size, 3, none⟩ = some (.int .i64 tag) := by rw [bc _ _ (by first | omega | (simp <;> omega))]; first | with_reducible assumption | go_simp
    have af3 : w1.frozen? ⟨w.heap.size, 3, none⟩ = false := by rw [bf _ _ (by first | omega | (simp <;> omega))]; first | with_reducible assumption | go_simp
    clear hb bc bf
    have j1 : bits .or .i64 (cl * 1048576) id = cl * 1048576 + id := or_join 20 cl id (by omega) c0 (by omega) (by omega) (by omega)
    have j2 : bits .or .i64 ((cl * 1048576 + id) * 2097152) am = (cl * 1048576 + id) * 2097152 + am := or_join 21 (cl * 1048576 + id) am (by omega) (by omega) (by omega) (by omega) (by omega)
    go_wp2
    go_ret2
    exact ⟨by rw [hbd]; rfl, HB.out⟩
  · rw [if_neg h]
    have he : (faultI t != 0) = true := bne_iff_ne.mpr h
    clear h
    generalize faultI t = fe at *
    obtain ⟨cl, id, am, tag⟩ := t
    unfold Tk.vals at HF ⊢
    simp only at *
    go_enter Tryd.func72, Tryd.ntmps72
    go_wp2_with (fail)
    go_at_call 44
    refine (HF.out _).mono ?_
    rintro e w1 ⟨rfl, hb⟩
    have HB := Lib.hid (below_then' (blw_alloc (Below.refl _ _) _) hb)
    clear hb
    go_wp2
    go_ret2
    exact ⟨rfl, HB.out⟩
end Go.Proofs.YtccjcdecpgigpaaDoor.Tok
