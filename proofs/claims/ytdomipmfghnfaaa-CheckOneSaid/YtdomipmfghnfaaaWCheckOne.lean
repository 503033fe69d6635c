/- The walk of CheckOne. -/
import Derived.Test.YtdomipmfghnfaaaRest
import Derived.Test.YtdomipmfghnfaaaChkP
namespace Go.Proofs.Ytdomipmfghnfaaa.CheckOne
open Go.RowKit Go.Proofs.Ytdomipmfghnfaaa.Base Go.Proofs.Ytdomipmfghnfaaa.Num Go.Proofs.Ytdomipmfghnfaaa.Chk Go.Proofs.Ytdomipmfghnfaaa.Rest Go.Proofs.Ytdomipmfghnfaaa.ChkP
set_option linter.unusedVariables false
set_option linter.unusedSimpArgs false

/-- How many of the digits below k make a sum 0: with the rest's motion r, in front of it the digit. -/
def fits (S : ByteArray) (k : Nat) : Bool := allI (S ++ one (48 + (k : Int))) 0 == 0
def cnt (S : ByteArray) : Nat → Int
  | 0 => 0
  | k + 1 => cnt S k + (if fits S k then 1 else 0)
theorem val_of (k : Nat) (h : k < 10) : (UInt8.ofNat (48 + (k : Int)).toNat).toNat = 48 + k := by rw [UInt8.toNat_ofNat']; omega
theorem digB_of (k : Nat) (h : k < 10) : digB (UInt8.ofNat (48 + (k : Int)).toNat) = true := by
  unfold digB; rw [val_of k h]; simp; omega
theorem cnt_bound (S : ByteArray) (k : Nat) : 0 ≤ cnt S k ∧ cnt S k ≤ k := by
  induction k with
  | zero => exact ⟨Int.le_refl _, Int.le_refl _⟩
  | succ k ih => simp only [cnt]; split <;> omega
theorem fin_one : ∀ X : Fin 10, ((List.range 10).foldl (fun (n : Int) (d : Nat) => n + (if (thenI (d : Nat) (X.val : Nat) == 0) = true then 1 else 0)) 0) = 1 := by decide +kernel
theorem fits_eq (S : ByteArray) (hS : allDig S = true) (k : Nat) (hk : k < 10) : fits S k = (thenI (k : Nat) (allR 0 1 S.data.toList.reverse) == 0) := by
  unfold fits allI
  have hl : (S ++ one (48 + (k : Int))).data.toList.reverse = UInt8.ofNat (48 + (k : Int)).toNat :: S.data.toList.reverse := by
    rw [bytes_append, one_list]; simp
  rw [hl]
  have hm : movedI (((UInt8.ofNat (48 + (k : Int)).toNat).toNat : Int) - 48) 0 = (k : Nat) := by
    unfold movedI
    simp only [Nat.zero_mod, itI]
    rw [val_of k hk]
    omega
  show (allR (thenI 0 (movedI _ 0)) (0 + 1) _ == 0) = _
  have hk' : dg ((k : Nat) : Int) := by unfold dg; omega
  rw [hm, one_lI _ hk', allR_then _ _ _ hk' (fun x hx => allDig_mem S hS x (by simpa using hx))]
theorem cnt_ten (S : ByteArray) (hS : allDig S = true) : cnt S 10 = 1 := by
  have hX := allR_dg S.data.toList.reverse 0 1 dg0 (fun x hx => allDig_mem S hS x (by simpa using hx))
  have := fin_one ⟨(allR 0 1 S.data.toList.reverse).toNat, by unfold dg at hX; omega⟩
  have e : (((allR 0 1 S.data.toList.reverse).toNat : Nat) : Int) = allR 0 1 S.data.toList.reverse := by unfold dg at hX; omega
  simp only [e] at this
  simp only [cnt]
  rw [fits_eq S hS 0 (by decide), fits_eq S hS 1 (by decide), fits_eq S hS 2 (by decide), fits_eq S hS 3 (by decide), fits_eq S hS 4 (by decide), fits_eq S hS 5 (by decide), fits_eq S hS 6 (by decide), fits_eq S hS 7 (by decide), fits_eq S hS 8 (by decide), fits_eq S hS 9 (by decide)]
  exact this
theorem more_dig (S : ByteArray) (hS : allDig S = true) (k : Nat) (hk : k < 10) : allDig (S ++ one (48 + (k : Int))) = true := by
  unfold allDig at *
  rw [bytes_append, List.all_append, hS, one_list, List.all_cons, digB_of k hk]
  rfl
theorem walk (raw : List UInt8) (A : Option Addr) (c : Nat) (w : World) (hr : RdE 1 encB w A raw) :
    Calls Try.prog 14 #[.slice A raw.length c] w fun e w' => e = .returned (.bool true) ∧ Below w.heap.size w w' := by
  obtain ⟨S, hS⟩ : ∃ S, S = numerals raw 199 := ⟨_, rfl⟩
  obtain ⟨s0, s1⟩ := numerals_size raw 199 (by decide)
  have hd := numerals_dig raw 199
  rw [← hS] at s0 s1 hd
  have HS := Lib.hid hS
  have HD := Lib.hid hd
  have HR := Lib.hid hr
  clear hS hd hr
  go_enter Try.func14, Try.ntmps14
  go_wp2_with (go_at_call 18; refine (numerals_at raw 199 _ A c _ HR.out rfl (by decide) (by decide)).mono ?_; rw [← HS.out]; rintro e wa ⟨rfl, hba⟩; have HBA := Lib.hid hba; clear hba)
  go_loopw [4, 5] (fun n i wr => ∃ k : Nat, k ≤ 10 ∧ i = .int .i64 k ∧ n = .int .i64 (cnt S k) ∧ Below w.heap.size w wr) (fun _ i _ => 10 - (intOf i).toNat)
  case atStart => exact ⟨0, by omega, rfl, rfl, HBA.out⟩
  case round =>
    obtain ⟨k, hk, rfl, rfl, hb⟩ := hrel
    have HB := Lib.hid hb
    clear hb
    obtain ⟨n0, n1⟩ := cnt_bound S k
    by_cases hlt : k < 10
    · have hcv := conv0 wr (48 + (k : Int)) (by omega) (by omega)
      have hz2 := one_size (48 + (k : Int))
      have hsz : S.size + 1 ≤ 9223372036854775807 := by omega
      have hsz2 : (S ++ one (48 + (k : Int))).size = S.size + 1 := by simp [hz2]
      have HG := Lib.hid (fun w => good_any (S ++ one (48 + (k : Int))) w (more_dig S HD.out k hlt) (by omega) (by omega))
      have hf : (allI (S ++ one (48 + (k : Int))) 0 == 0) = fits S k := rfl
      have HF := Lib.hid hf
      clear hf hsz2
      cases hfit : fits S k
      all_goals
        have HT := Lib.hid hfit
        clear hfit
        go_wp2_with (go_at_call 33; refine (HG.out _).mono ?_; rw [HF.out, HT.out]; rintro e wg ⟨rfl, hbg⟩; have HBG := Lib.hid hbg; clear hbg)
        go_roundw
        case rel => exact ⟨k + 1, by omega, by go_num, by simp only [cnt]; rw [HT.out]; first | rfl | go_num | simp, below_then' (HB.out.alloc HB.out.size _) HBG.out⟩
        case measure => simp [intOf]; omega
    · obtain rfl : k = 10 := by omega
      have ht := Lib.hid (cnt_ten S HD.out)
      go_wp2
      go_ret
      exact ⟨ret_bool (by rw [ht.out]; rfl), HB.out⟩
end Go.Proofs.Ytdomipmfghnfaaa.CheckOne
