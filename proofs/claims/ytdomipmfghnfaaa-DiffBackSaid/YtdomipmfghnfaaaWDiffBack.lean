/- The walk of DiffBack. -/
import Derived.Test.YtdomipmfghnfaaaDiff
namespace Go.Proofs.Ytdomipmfghnfaaa.DiffBack
open Go.RowKit Go.Proofs.Ytdomipmfghnfaaa.Base Go.Proofs.Ytdomipmfghnfaaa.Cell
set_option linter.unusedVariables false
set_option linter.unusedSimpArgs false

def lenV : Value → Nat
  | .slice _ n _ => n
  | _ => 0
theorem some_len (l : List UInt32) (m : Nat) (hm : 1 ≤ m) : 1 ≤ (someL l m).length ∧ (someL l m).length ≤ m := by
  unfold someL
  split
  · simp; omega
  · rename_i h
    have := List.length_pos_iff.2 h
    simp at this ⊢
    omega
theorem cell_old {w : World} {a : Addr} {v : Value} (h : w.cell? a = some v) : ∀ o, (w.alloc o).cell? a = some v := fun o => ((blw_alloc (Below.refl w.heap.size w) o).cell (World.block_lt_of_cell? w _ h)).trans h
set_option maxHeartbeats 1000000 in
theorem walk (x : List UInt32) (X : Option Addr) (cx : Nat) (y : List UInt32) (Y : Option Addr) (cy : Nat) (w : World) (hx : RdE 1 encW w X x) (hxb : x.length * 4 ≤ 140737488351232) (hy : RdE 1 encW w Y y) (hyb : y.length * 4 ≤ 140737488351232) :
    Calls Try.prog 12 #[.slice X x.length cx, .slice Y y.length cy] w fun e w' => e = .returned (.bool true) ∧ Below w.heap.size w w' := by
  have HX := Lib.hid hx
  have HY := Lib.hid hy
  clear hx hy
  go_enter Try.func12, Try.ntmps12
  go_wp2_with (fail)
  go_at_call 23
  refine (some_any x 200 _ X cx _ HX.out rfl (by omega) hxb).mono ?_
  rintro e w1 ⟨A, p, rfl, ho, hb⟩
  obtain ⟨a0, a1⟩ := some_len x 200 (by omega)
  generalize someL x 200 = a at *
  have HA := Lib.hid ho
  have HB1 := Lib.hid hb
  clear ho hb
  go_wp2_with (fail)
  go_at_call 23
  refine (some_any y a.length _ Y cy _ (HY.out.below HB1.out) rfl (by omega) hyb).mono ?_
  rintro e w2 ⟨B, q, rfl, ho, hb⟩
  obtain ⟨b0, b1⟩ := some_len y a.length (by omega)
  generalize someL y a.length = b at *
  have HO2 := Lib.hid ho
  have HB2 := Lib.hid hb
  have HA2 := Lib.hid (HA.out.read.below hb)
  clear ho hb
  go_wp2
  go_loopw [6] (fun v wr => ∃ bl : List UInt32, bl.length ≤ a.length ∧ wr.ownsRow w1.heap.size 35 1 v bl.length (bl.flatMap encW) ∧ Below w1.heap.size w1 wr) (fun v _ => a.length - lenV v)
  case atStart => exact ⟨b, b1, HO2.out, HB2.out⟩
  case round =>
    obtain ⟨bl, hbl, hown, hbel⟩ := hrel
    obtain ⟨B1, q1, rfl, ho⟩ := OwW.of (xs := bl) hown rfl rfl
    have HO := Lib.hid ho
    have HB := Lib.hid hbel
    clear hown hbel ho
    by_cases hlt : bl.length < a.length
    · obtain ⟨aa, rfl, hc⟩ := (HA.out.read.below HB.out).at1 bl.length hlt _ rfl
      have hki : (bl.length : Int) < (a.length : Int) := by omega
      have hk0 : (0 : Int) ≤ (bl.length : Int) := by omega
      go_wp2_with (at_builtin; refine app1 (w0 := w1) w1.heap.size rfl (.tmp 24) (.tmp 30) 41 35 (.int .u32 0) 1 4 rfl Try.underlying41 info_u32 rfl (by decide) (by decide) _ _ _ [.int .u32 (a[bl.length].toNat : Int)] rfl rfl rfl ?c1 HO.out HB.out HB.out.size ?c2 ?_; (case c1 => intro u hu; simp at hu; subst hu; rfl); (case c2 => omega); intro v1 w1' ho1 hb1 _ _)
      go_roundw
      case rel => exact ⟨bl ++ [a[bl.length]], by simp; omega, by rw [List.flatMap_append, List.length_append]; exact ho1, hb1⟩
      case measure =>
        obtain ⟨B2, q2, rfl, _⟩ := OwW.of (xs := bl ++ [a[bl.length]]) ho1 (by simp) (by simp [encW])
        simp [lenV]; omega
    · have hle : bl.length = a.length := by omega
      have HLE := Lib.hid hle
      have hki : ¬ (bl.length : Int) < (a.length : Int) := by omega
      clear hle
      have HAr := Lib.hid (HA.out.read.below HB.out)
      have hw0 := HB1.out.size
      go_wp2_with (go_at_call 31; refine (diff_any a bl A B1 p q1 _ HAr.out HO.out.read a0 (by omega) HLE.out.symm).mono ?_; rintro e w3 ⟨C, q3, rfl, ho, hb⟩; have HD := Lib.hid ho; have HB3 := Lib.hid hb; clear ho hb)
      have hl := diffK_len a bl a.length
      have hin := Lib.hid (diffK_in a bl a.length)
      have hpw := Lib.hid (diffK_lt a bl a.length)
      have happ := Lib.hid (diffK_apply a bl HLE.out.symm a.length (by omega))
      generalize diffK a bl a.length = ws at *
      have HA3 := Lib.hid (HAr.out.below HB3.out)
      have HL3 := Lib.hid (HO.out.read.below HB3.out)
      have HB4 := Lib.hid ((below_then HB1.out HB1.out.size HB.out).trans (HB3.out.mono (by have := HB.out.size; omega)))
      go_loopw [9] (fun i wr => ∃ k : Nat, k ≤ ws.length ∧ i = .int .i64 k ∧ Below w3.heap.size w3 wr) (fun i _ => ws.length - (intOf i).toNat)
      case atStart => exact ⟨0, by omega, rfl, Below.refl _ _⟩
      case round =>
        obtain ⟨k, hk, rfl, hbl4⟩ := hrel
        have HB5 := Lib.hid hbl4
        clear hbl4
        by_cases hlt4 : k < ws.length
        · obtain ⟨ad, rfl, hc0, hc1⟩ := (HD.out.read.below HB5.out).at2 k hlt4 _ _ rfl
          have hxi := hin.out ws[k] (List.getElem_mem hlt4)
          obtain ⟨hx1, hx2⟩ := hxi
          have hx2' := Lib.hid hx2
          clear hx2
          obtain ⟨aa, rfl, hca⟩ := (HA3.out.below HB5.out).at1 ws[k].at_ hx1 _ rfl
          have hca' := cell_old hca
          have hat0 : decide ((ws[k].at_ : Int) < 0) = false := decide_eq_false (by omega)
          have hat1 : decide ((ws[k].at_ : Int) ≥ (a.length : Int)) = false := decide_eq_false (by omega)
          have hat2 : decide ((a.length : Int) ≤ (ws[k].at_ : Int)) = false := decide_eq_false (by omega)
          have hat3 : decide (a.length ≤ ws[k].at_) = false := decide_eq_false (by omega)
          have hne : ((a[ws[k].at_].toNat : Int) == (ws[k].word.toNat : Int)) = false := by
            have : ¬ a[ws[k].at_].toNat = ws[k].word.toNat := fun h => hx2'.out (by rw [getD_at _ _ hx1]; exact UInt32.toNat_inj.1 h)
            simp; omega
          have h4i : (k : Int) < (ws.length : Int) := by omega
          have h4a : (ws[k].at_ : Int) < (a.length : Int) := by omega
          have h40 : (0 : Int) ≤ (k : Int) := by omega
          have h4a0 : (0 : Int) ≤ (ws[k].at_ : Int) := by omega
          by_cases hk0 : k = 0
          · have hk0' : decide ((k : Int) > 0) = false := decide_eq_false (by omega)
            have hk0'' : decide (0 < k) = false := decide_eq_false (by omega)
            have HK0 := Lib.hid hk0
            clear hk0
            go_wp2
            go_quiet (fail)
            go_wp2
            go_roundw
            case rel => exact ⟨k + 1, by omega, by go_num, blw_step (blw_alloc HB5.out _) _⟩
            case measure => simp [intOf]; omega
          · have hk0' : decide ((k : Int) > 0) = true := decide_eq_true (by omega)
            have hk0'' : decide (0 < k) = true := decide_eq_true (by omega)
            have hp := List.pairwise_iff_getElem.1 hpw.out (k - 1) k (by omega) hlt4 (by omega)
            have hk1a : (0 : Int) ≤ (k : Int) - 1 := by omega
            have hk1b : (k : Int) - 1 < (ws.length : Int) := by omega
            obtain ⟨ad', hae, hc2, hc3⟩ := (HD.out.read.below HB5.out).at2 (k - 1) (by omega) _ _ rfl
            cases hae
            have hc2' := cell_old hc2
            have hc3' := cell_old hc3
            clear hc3
            have hk1n : ((k : Int) - 1).toNat = k - 1 := by omega
            clear hk0
            have hge : decide ((ws[k - 1].at_ : Int) ≥ (ws[k].at_ : Int)) = false := decide_eq_false (by omega)
            have hge2 : decide (ws[k].at_ ≤ ws[k - 1].at_) = false := decide_eq_false (by omega)
            go_wp2
            go_quiet (fail)
            go_wp2
            go_roundw
            case rel => exact ⟨k + 1, by omega, by go_num, blw_step (blw_alloc HB5.out _) _⟩
            case measure => simp [intOf]; omega
        · obtain rfl : k = ws.length := by omega
          have happ2 : applyL a (ws.take ws.length) = bl := by
            rw [List.take_of_length_le (Nat.le_refl _), happ.out, List.take_of_length_le (by have := HLE.out; omega), List.drop_eq_nil_of_le (Nat.le_refl _), List.append_nil]
          have HAP := Lib.hid happ2
          clear happ2
          go_wp2_with (fail)
          go_at_call 24
          refine (apply_any a ws ws.length _ A C p q3 _ (HA3.out.below HB5.out) (HD.out.read.below HB5.out) a0 (by omega) (by omega) (own_cap HD.out) (fun x h => (hin.out x h).1) rfl (by omega)).mono ?_
          rintro e w6 ⟨E, q6, rfl, ho6, hb6⟩
          rw [HAP.out] at ho6 ⊢
          have HO6 := Lib.hid ho6
          have HB6 := Lib.hid hb6
          clear ho6 hb6
          have HL6 := Lib.hid ((HL3.out.below HB5.out).below HB6.out)
          go_wp2_with (go_at_call 25; refine (same_any _ _ _ _ _ _ _ HL6.out HO6.out.read).mono ?_; rintro e w7 ⟨rfl, n7, rfl⟩; rw [decide_eq_true rfl])
          go_ret
          exact ⟨rfl, blw_step ((HB4.out.trans (HB5.out.mono (by have := HB4.out.size; omega))).trans (HB6.out.mono (by have := HB4.out.size; have := HB5.out.size; omega))) _⟩
end Go.Proofs.Ytdomipmfghnfaaa.DiffBack
