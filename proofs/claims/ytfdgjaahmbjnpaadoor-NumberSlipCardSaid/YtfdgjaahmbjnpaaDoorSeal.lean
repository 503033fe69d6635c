/- The contract of sealed: digits with their check digit behind them. -/
import Derived.Test.YtfdgjaahmbjnpaaDoorRest
import Derived.Test.YtfdgjaahmbjnpaaDoorChkP
import Derived.Test.YtfdgjaahmbjnpaaDoorWRestSwaps
namespace Go.Proofs.YtfdgjaahmbjnpaaDoor.Seal
open Go.RowKit Go.Proofs.YtfdgjaahmbjnpaaDoor.Base Go.Proofs.YtfdgjaahmbjnpaaDoor.Num Go.Proofs.YtfdgjaahmbjnpaaDoor.Chk Go.Proofs.YtfdgjaahmbjnpaaDoor.Rest Go.Proofs.YtfdgjaahmbjnpaaDoor.ChkP
set_option linter.unusedVariables false
set_option linter.unusedSimpArgs false
set_option maxRecDepth 20000

def dOf (s : ByteArray) : Int := backI (allI s 1)
def sealS (s : ByteArray) : ByteArray := s ++ one (48 + dOf s)
theorem dOf_dg (s : ByteArray) (hd : allDig s = true) : dg (dOf s) :=
  backI_dg _ (allR_dg s.data.toList.reverse 0 1 dg0 (fun x hx => allDig_mem s hd x (by simpa using hx)))
theorem byteOf (d : Int) (h : dg d) : (UInt8.ofNat (48 + d).toNat).toNat = 48 + d.toNat := by
  unfold dg at h
  rw [UInt8.toNat_ofNat']
  omega
theorem byte_dig (d : Int) (h : dg d) : digB (UInt8.ofNat (48 + d).toNat) = true := by
  unfold digB
  rw [byteOf d h]
  unfold dg at h
  simp
  omega
theorem sealS_list (s : ByteArray) : (sealS s).data.toList = s.data.toList ++ [UInt8.ofNat (48 + dOf s).toNat] := by
  unfold sealS; rw [bytes_append, one_list]
theorem sealS_size (s : ByteArray) : (sealS s).size = s.size + 1 := by
  rw [← bytes_len, sealS_list, List.length_append, bytes_len]; rfl
theorem sealS_dig (s : ByteArray) (hd : allDig s = true) : allDig (sealS s) = true := by
  unfold allDig at *
  rw [sealS_list, List.all_append, hd, List.all_cons, byte_dig _ (dOf_dg s hd)]
  rfl
theorem sealS_good (s : ByteArray) (hd : allDig s = true) : allI (sealS s) 0 = 0 := by
  unfold allI
  rw [sealS_list, List.reverse_append]
  show allR 0 0 (UInt8.ofNat (48 + dOf s).toNat :: s.data.toList.reverse) = 0
  have hdd := dOf_dg s hd
  have hm : movedI (((UInt8.ofNat (48 + dOf s).toNat).toNat : Int) - 48) 0 = dOf s := by
    unfold movedI
    simp only [Nat.zero_mod, itI]
    rw [byteOf _ hdd]
    unfold dg at hdd
    omega
  show allR (thenI 0 (movedI _ 0)) (0 + 1) _ = 0
  rw [hm, one_lI _ hdd, allR_then _ _ _ hdd (fun x hx => allDig_mem s hd x (by simpa using hx))]
  exact inv_lI _ (allR_dg s.data.toList.reverse 0 1 dg0 (fun x hx => allDig_mem s hd x (by simpa using hx)))
theorem pk_small (n m : Int) (h0 : 0 ≤ n) (h1 : n < m) : pk n m = n := by
  unfold pk
  rw [if_neg (by omega)]
  exact Int.emod_eq_of_lt h0 h1

theorem sealDigit_any (s : ByteArray) (w : World) (hd : allDig s = true) (h0 : 0 < s.size) (h1 : s.size ≤ 200) :
    Calls Tryd.prog 23 #[.string s] w fun e w' => e = .returned (.tuple #[.int .i64 (dOf s), .int .i64 0]) ∧ Below w.heap.size w w' := by
  have HZ := Lib.hid (digitsE_ok s h0 h1 hd)
  have HD := Lib.hid hd
  have hdg := Lib.hid (allR_dg s.data.toList.reverse 0 1 dg0 (fun x hx => allDig_mem s hd x (by simpa using hx)))
  clear hd
  go_enter Tryd.func23, Tryd.ntmps23
  go_wp2_with (first | (go_at_call 39; refine (digits_any s _).mono ?_; rw [HZ.out]; rintro e w1 ⟨rfl, hb1⟩; have HB1 := Lib.hid hb1; clear hb1) | (go_at_call 40; refine (all_any s 1 _ HD.out (by omega) (by omega)).mono ?_; rintro e w2 ⟨rfl, hb2⟩; have HB2 := Lib.hid hb2; clear hb2) | (go_at_call 41; refine (back_any _ _ hdg.out).mono ?_; rintro e w3 ⟨rfl, rfl⟩))
  go_ret2
  exact ⟨rfl, below_then' HB1.out HB2.out⟩



























end Go.Proofs.YtfdgjaahmbjnpaaDoor.Seal
