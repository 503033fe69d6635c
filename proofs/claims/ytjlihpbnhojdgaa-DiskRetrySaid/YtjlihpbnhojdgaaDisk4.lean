/- Contracts of the laws' helpers put, sameRecords, tape; of cell.Blank. -/
import Derived.Test.YtjlihpbnhojdgaaDisk3
namespace Go.Proofs.Ytjlihpbnhojdgaa.Cell
open Go.RowKit Go.Proofs.Ytjlihpbnhojdgaa.Base
set_option linter.unusedVariables false
set_option linter.unusedSimpArgs false
set_option maxRecDepth 20000
theorem made_words (n : Nat) : (madeCells (Value.int .u32 0).cells (n * 1)).toList = (List.replicate n (0 : UInt32)).flatMap encW := by
  show (madeCells #[Value.int .u32 0] (n * 1)).toList = _
  rw [Nat.mul_one, toList_madeCells_one]
  induction n with
  | zero => rfl
  | succ n ih =>
    rw [List.replicate_succ, List.replicate_succ, List.flatMap_cons, ← ih]
    rfl
theorem apply_all (cw : List UInt32) (ws : List Wr) (A L : Option Addr) (c d : Nat) (w : World) (hc : RdE 1 encW w A cw) (hws : RdE 2 Wr.enc w L ws) (h0 : 1 ≤ cw.length) (h1 : cw.length ≤ 2048)
    (hw : ws.length ≤ 4096) (hd : ws.length ≤ d) (hin : ∀ x ∈ ws, x.at_ < cw.length) :
    Calls Try.prog 37 #[.slice A cw.length c, .slice L ws.length d, .int .i64 (ws.length : Int)] w fun e w' => ∃ B q, e = .returned (.tuple #[.slice B (applyL cw ws).length q, .int .i64 0]) ∧ OwW w.heap.size w' B q (applyL cw ws) ∧ Below w.heap.size w w' := by
  have := apply_any cw ws ws.length ws.length A L c d w hc hws h0 h1 hw hd hin rfl (Nat.le_refl _)
  rwa [List.take_of_length_le (Nat.le_refl _)] at this

theorem blank_any (n : Nat) (w : World) (h0 : 1 ≤ n) (h1 : n ≤ 2048) :
    Calls Try.prog 54 #[.int .i64 (n : Int)] w fun e w' => ∃ B d, e = .returned (.tuple #[.slice B (List.replicate n (0 : UInt32)).length d, .int .i64 0]) ∧ OwW w.heap.size w' B d (List.replicate n 0) ∧ Below w.heap.size w w' := by
  obtain ⟨i0, hi, hz0, hz1, hz2⟩ := info_parts info_u32
  have e0 : decide ((n : Int) < 1) = false := decide_eq_false (by omega)
  have e1 : decide ((n : Int) > 2048) = false := decide_eq_false (by omega)
  have e2 : (1 : Int) ≤ (n : Int) := by omega
  have e3 : (n : Int) ≤ 2048 := by omega
  go_enter Try.func54, Try.ntmps54
  go_wp2_with (at_make; refine wpList_make_full _ rfl (.tmp 10) (.tmp 10) 36 rfl w.heap.size 45 i0 (.int .u32 0) 1 Try.underlying36 hi hz0 hz1 .i64 .i64 _ _ n rfl rfl rfl rfl ?m1 ?m2 ?m3 ?_; (case m1 => rw [hz2]; omega); (case m2 => simp [maxLen]; omega); (case m3 => exact Nat.le_refl _); intro w2 ho2 hg2; have ho3 := ho2; rw [made_words] at ho3; have HO2 := Lib.hid ho3; have HB2 := Lib.hid ((Below.refl w.heap.size w).grown hg2 (Nat.le_refl _) (by simp)); clear ho2 ho3 hg2)
  go_ret2
  have hl : (List.replicate n (0 : UInt32)).length = n := by simp
  refine ⟨some ⟨w.heap.size, 0, none⟩, n, by rw [hl]; rfl, ?_, HB2.out⟩
  unfold OwW
  rw [hl]
  exact HO2.out
theorem blank_zero (w : World) :
    Calls Try.prog 54 #[.int .i64 0] w fun e w' => e = .returned (.tuple #[.slice none 0 0, .int .i64 1]) ∧ w = w' := by
  go_enter Try.func54, Try.ntmps54
  go_wp2
  go_ret2
  exact ⟨rfl, rfl⟩
theorem put_any (c rec : List UInt32) (l : List (List UInt32)) (A D : Option Addr) (q d : Nat) (w : World) (hc : RdE 1 encW w A c) (hr : RdE 1 encW w D rec) (ht : Tape c l) (h0 : 1 ≤ c.length) (h1 : c.length ≤ 2048) (hq : c.length ≤ q) (r0 : 1 ≤ rec.length) (r1 : rec.length ≤ 64)
    (hf : (encL l).length + 1 + rec.length ≤ c.length) :
    Calls Try.prog 38 #[.slice A c.length q, .slice D rec.length d] w fun e w' => ∃ B p c', e = .returned (.tuple #[.slice B c'.length p, .bool true]) ∧ c'.length = c.length ∧ Tape c' (l ++ [rec]) ∧ OwW w.heap.size w' B p c' ∧ Below w.heap.size w w' := by
  have HA := Lib.hid (append_yes c rec l A D q d w hc hr ht h0 h1 hq r0 r1 hf)
  have HC := Lib.hid hc
  have hal := Lib.hid (append_all ht rec r0 r1 hf)
  have hin := Lib.hid (fun x hx => (appendW_in c.length (encL l).length rec hf x hx).2)
  obtain ⟨l0, l1⟩ := appendW_len c.length (encL l).length rec
  clear hc hr ht
  generalize appendW c.length (encL l).length rec = ws at *
  go_enter Try.func38, Try.ntmps38
  go_wp2_with (fail)
  go_at_call 32
  refine HA.out.mono ?_
  rintro e w1 ⟨B, p, rfl, ho, hb⟩
  have HB := Lib.hid hb
  have hcap := own_cap ho
  have HAP := Lib.hid (apply_all c ws A B q p w1 (HC.out.below hb) ho.read h0 h1 (by omega) hcap hin.out)
  clear ho hb hcap
  have hlen := Lib.hid (applyL_len ws c)
  generalize applyL c ws = c2 at *
  go_wp2_with (fail)
  go_at_call 37
  refine HAP.out.mono ?_
  rintro e w2 ⟨E, h, rfl, ho, hb⟩
  have HO := Lib.hid ho
  have HB2 := Lib.hid (HB.out.trans (hb.mono HB.out.size))
  clear ho hb
  have e1 : (c2.length == c.length) = true := by simp [hlen.out]
  have e2 : ((c2.length : Int) == (c.length : Int)) = true := by simp [hlen.out]
  go_wp2
  go_ret2
  exact ⟨E, h, c2, rfl, hlen.out, hal.out, own_less HO.out HB.out.size, HB2.out⟩
set_option maxHeartbeats 1000000 in
theorem recs_same (xs : List (List UInt32)) (A B : Option Addr) (c d : Nat) (w : World) (hx : RdS w A xs) (hy : RdS w B xs) :
    Calls Try.prog 36 #[.slice A xs.length c, .slice B xs.length d] w fun e w' => e = .returned (.bool true) ∧ Below w.heap.size w w' := by
  have hmx := hx.1
  have HX := Lib.hid hx
  have HY := Lib.hid hy
  clear hx hy
  go_enter Try.func36, Try.ntmps36
  go_wp2_with (fail)
  go_loopg [5] xs.length (fun m i wr => ∃ k : Nat, m + k = xs.length ∧ i = .int .i64 k ∧ Below w.heap.size w wr)
  case atStart => exact ⟨0, by omega, rfl, Below.refl _ _⟩
  case round =>
    obtain ⟨k, hk, rfl, hbl⟩ := hrel
    have HB := Lib.hid hbl
    clear hbl
    by_cases hlt : k < xs.length
    · obtain ⟨ad, rfl, X, x0, hcx, hrx⟩ := (HX.out.below HB.out).at k hlt
      obtain ⟨bd, rfl, Y, y0, hcy, hry⟩ := (HY.out.below HB.out).at k hlt
      have HRX := Lib.hid hrx
      have HRY := Lib.hid hry
      clear hrx hry
      obtain ⟨x, hx⟩ : ∃ x, x = xs[k] := ⟨_, rfl⟩
      rw [← hx] at HRX HRY hcx hcy
      clear hx
      have hki : (k : Int) < (xs.length : Int) := by omega
      have hk0 : (0 : Int) ≤ (k : Int) := by omega
      go_wp2_with (fail)
      go_quiet ((go_at_call 21; exact same_qT _ _ _ _ _ _ _ _ HRX.out HRY.out rfl))
      go_wp2_with (fail)
      go_roundg (xs.length - (k + 1))
      case measure => omega
      case rel => exact ⟨k + 1, by omega, by go_num, blw_step HB.out _⟩
    · obtain rfl : k = xs.length := by omega
      go_wp2
      go_ret
      exact ⟨rfl, HB.out⟩
end Go.Proofs.Ytjlihpbnhojdgaa.Cell
