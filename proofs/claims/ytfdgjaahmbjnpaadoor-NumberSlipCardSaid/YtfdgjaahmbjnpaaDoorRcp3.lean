/- A meter's number: plain facts, and the contract of receipt.Number. -/
import Derived.Test.YtfdgjaahmbjnpaaDoorRcp2
import Derived.Test.YtfdgjaahmbjnpaaDoorLay
import Derived.Test.YtfdgjaahmbjnpaaDoorCts
import Derived.Test.YtfdgjaahmbjnpaaDoorSeal
import Derived.Test.YtfdgjaahmbjnpaaDoorWCheckSlip
import Derived.Test.YtfdgjaahmbjnpaaDoorWCheckSwap
namespace Go.Proofs.YtfdgjaahmbjnpaaDoor.Rcp
open Go Go.RowKit Go.Proofs.YtfdgjaahmbjnpaaDoor.Base Go.Proofs.YtfdgjaahmbjnpaaDoor.Chk Go.Proofs.YtfdgjaahmbjnpaaDoor.Seal Go.Proofs.YtfdgjaahmbjnpaaDoor.Lay Go.Proofs.YtfdgjaahmbjnpaaDoor.Cts
set_option linter.unusedVariables false
set_option linter.unusedSimpArgs false
set_option maxRecDepth 20000
def tenB (m : Nat) : ByteArray := ⟨(tenL m).toArray⟩
def numS (m : Nat) : ByteArray := sealS (tenB m)
theorem tenB_list (m : Nat) : (tenB m).data.toList = tenL m := rfl
theorem tenB_size (m : Nat) (h : m < 50) : (tenB m).size = 10 := by rw [← bytes_len, tenB_list, ten_len m h]
theorem tenB_dig (m : Nat) (h : m < 50) : allDig (tenB m) = true := by
  unfold allDig
  rw [tenB_list, ten_dig m h]
  have hk : ∀ k : Fin 50, List.all [48, 48, 48, 48, 48, 48, 48, 48, UInt8.ofNat (48 + k.val / 10), UInt8.ofNat (48 + k.val % 10)] digB = true := by decide +kernel
  exact hk ⟨m, h⟩
theorem numS_dig (m : Nat) (h : m < 50) : allDig (numS m) = true := sealS_dig _ (tenB_dig m h)
theorem numS_good (m : Nat) (h : m < 50) : allI (numS m) 0 = 0 := sealS_good _ (tenB_dig m h)
theorem numS_size (m : Nat) (h : m < 50) : (numS m).size = 11 := by unfold numS; rw [sealS_size, tenB_size m h]
theorem numS_list (m : Nat) : (numS m).data.toList = tenL m ++ [UInt8.ofNat (48 + dOf (tenB m)).toNat] := by unfold numS; rw [sealS_list, tenB_list]
theorem itoa_ten (m : Nat) (h : m < 50) : ∃ S0 : ByteArray, S0 = ⟨(Lib.itoa (10000000000 + (m : Int))).toArray⟩ ∧ S0.size = 11 ∧ S0.extract 1 S0.size = tenB m := by
  have hl : (⟨(Lib.itoa (10000000000 + (m : Int))).toArray⟩ : ByteArray).size = 11 := by
    rw [← bytes_len]
    show (Lib.itoa (10000000000 + (m : Int))).length = 11
    rw [itoa_num, dec_len m h]
  refine ⟨_, rfl, hl, ?_⟩
  apply bytes_ext
  rw [bytes_extract, hl]
  show ((Lib.itoa (10000000000 + (m : Int))).take 11).drop 1 = tenL m
  rw [itoa_num, List.take_of_length_le (by rw [dec_len m h]; exact Nat.le_refl _)]
  rfl
theorem numS_itoa (m : Nat) (h : m < 50) (d : Nat) (hd : dOf (tenB m) = d) (h9 : d < 10) : tenB m ++ (⟨(Lib.decDigits d).toArray⟩ : ByteArray) = numS m := by
  apply bytes_ext
  rw [bytes_append, numS_list, tenB_list, hd]
  show tenL m ++ Lib.decDigits d = _
  rw [Dec.dec_small h9]
  congr 2
theorem Number_any (m : Nat) (hm : m < 50) (w : World) (hT : Tb w) :
    Calls Tryd.prog 12 #[.int .i64 m] w fun e w' => e = .returned (.tuple #[.string (numS m), .int .i64 0]) ∧ Below w.heap.size w w' := by
  obtain ⟨S0, hS, hz, hx⟩ := itoa_ten m hm
  have h1 : 1 ≤ S0.size := by omega
  have hdd := dOf_dg (tenB m) (tenB_dig m hm)
  obtain ⟨d0, d1⟩ := hdd
  obtain ⟨d, hd⟩ := Int.eq_ofNat_of_zero_le d0
  have HI := Lib.hid (fun W (h : Tb W) => itoa_any (10000000000 + (m : Int)) (by omega) (by omega) W h)
  rw [← hS] at HI
  have HD := Lib.hid (fun W => sealDigit_any (tenB m) W (tenB_dig m hm) (by rw [tenB_size m hm]; omega) (by rw [tenB_size m hm]; omega))
  rw [hd] at HD
  have HJ := Lib.hid (fun W => Tryd.strconv_Itoa_small d (by omega) W)
  have HN := Lib.hid (numS_itoa m hm d hd (by omega))
  have HX := Lib.hid hx
  have zT := tenB_size m hm
  have zD : (⟨(Lib.decDigits d).toArray⟩ : ByteArray).size = 1 := by rw [← bytes_len]; show (Lib.decDigits d).length = 1; rw [Dec.dec_small (by omega)]; rfl
  have HT := Lib.hid hT
  have m0 : ¬ (50 : Int) ≤ (m : Int) := by omega
  have m1 : (m : Int) < 50 := by omega
  have zz : (tenB m).size + (⟨(Lib.decDigits d).toArray⟩ : ByteArray).size ≤ 9223372036854775807 := by omega
  clear zT zD
  generalize tenB m = T at *
  generalize (⟨(Lib.decDigits d).toArray⟩ : ByteArray) = D at *
  clear hS hz hx hd d0 d1 hT
  go_enter Tryd.func12, Tryd.ntmps12
  go_wp2_with fail
  go_at_call 20
  refine (HI.out _ HT.out).mono ?_
  rintro e w1 ⟨rfl, hb1⟩
  have HB1 := Lib.hid hb1
  clear hb1
  go_wp2_with fail
  go_at_call 23
  rw [HX.out]
  refine (HD.out _).mono ?_
  rintro e w2 ⟨rfl, hb2⟩
  have HB2 := Lib.hid hb2
  clear hb2
  go_wp2_with fail
  go_at_call 20
  refine (HJ.out _).mono ?_
  rintro e w3 ⟨rfl, rfl⟩
  go_wp2_with fail
  go_ret2
  exact ⟨by rw [HN.out]; rfl, below_then' HB1.out HB2.out⟩
end Go.Proofs.YtfdgjaahmbjnpaaDoor.Rcp
