/- The walk of RestJoins. -/
import Derived.Test.YtdomipmfghnfaaaRest
namespace Go.Proofs.Ytdomipmfghnfaaa.RestJoins
open Go.RowKit Go.Proofs.Ytdomipmfghnfaaa.Base Go.Proofs.Ytdomipmfghnfaaa.Num Go.Proofs.Ytdomipmfghnfaaa.Chk Go.Proofs.Ytdomipmfghnfaaa.Rest
set_option linter.unusedVariables false
set_option linter.unusedSimpArgs false

def shiftI : Nat → Int → Int
  | 0, a => a
  | n + 1, a => (shiftI n a * 10) % 97
theorem shiftI_bound (n : Nat) (a : Int) (h0 : 0 ≤ a) (h1 : a < 97) : 0 ≤ shiftI n a ∧ shiftI n a < 97 := by
  cases n with
  | zero => exact ⟨h0, h1⟩
  | succ n => simp only [shiftI]; omega
theorem shiftI_pow (n : Nat) (a : Int) : (shiftI n a - a * 10 ^ n) % 97 = 0 := by
  induction n with
  | zero => simp [shiftI]
  | succ n ih =>
    simp only [shiftI]
    rw [Int.pow_succ, ← Int.mul_assoc]
    generalize a * 10 ^ n = p at ih ⊢
    omega
theorem plain (a b : List UInt8) : (restL (a ++ b) == (shiftI b.length (restL a) + restL b) % 97) = true := by
  rw [beq_iff_eq, restL_append]
  have := shiftI_pow b.length (restL a)
  omega
theorem join_dig (a b : ByteArray) (ha : allDig a = true) (hb : allDig b = true) : allDig (a ++ b) = true := by
  unfold allDig at *
  rw [bytes_append, List.all_append, ha, hb]; rfl
theorem head_list (s : ByteArray) (h : 0 < s.size) : (s.extract 0 1).data.toList = [s[0]'h] := by
  rw [bytes_extract, take_snoc s 0 h]; simp
theorem walk (rx : List UInt8) (A : Option Addr) (c : Nat) (ry : List UInt8) (B : Option Addr) (d : Nat) (w : World) (hx : RdE 1 encB w A rx) (hy : RdE 1 encB w B ry) :
    Calls Try.prog 7 #[.slice A rx.length c, .slice B ry.length d] w fun e w' => e = .returned (.bool true) ∧ Below w.heap.size w w' := by
  obtain ⟨S, hS⟩ : ∃ S, S = numerals rx 100 := ⟨_, rfl⟩
  obtain ⟨T, hT⟩ : ∃ T, T = numerals ry 100 := ⟨_, rfl⟩
  obtain ⟨s0, s1⟩ := numerals_size rx 100 (by decide)
  obtain ⟨t0, t1⟩ := numerals_size ry 100 (by decide)
  have hd := numerals_dig rx 100
  have he := numerals_dig ry 100
  rw [← hS] at s0 s1 hd
  rw [← hT] at t0 t1 he
  have e1 := digitsE_ok S s0 (by omega) hd
  have e2 := digitsE_ok T t0 (by omega) he
  have hsz : (S ++ T).size = S.size + T.size := by simp
  have e3 := digitsE_ok (S ++ T) (by omega) (by omega) (join_dig S T hd he)
  have dg := allDig_at S hd 0 s0
  have hh := head_list S s0
  have e4 := digitsE_ok (S.extract 0 1) (by rw [← bytes_len, hh]; simp) (by rw [← bytes_len, hh]; simp) (by unfold allDig; rw [hh]; unfold digB; simp; omega)
  have e5 : restL (S.extract 0 1).data.toList = (S[0].toNat : Int) - 48 := by rw [hh, rest_one _ dg]
  obtain ⟨g0, g1⟩ := dg
  have hp := plain S.data.toList T.data.toList
  rw [bytes_len] at hp
  have r1 := restL_bound S.data.toList
  have r2 := restL_bound T.data.toList
  have c4 := fun w => rest_ok (S.extract 0 1) w e4
  rw [e5] at c4
  have HP := Lib.hid hp
  have HS := Lib.hid hS
  have HT := Lib.hid hT
  have E1 := Lib.hid e1
  have E2 := Lib.hid e2
  have E3 := Lib.hid e3
  have C4 := Lib.hid c4
  have HX := Lib.hid hx
  have HY := Lib.hid hy
  have hsum : S.size + T.size ≤ 9223372036854775807 := by omega
  have hle : 1 ≤ S.size := s0
  clear hS hT e1 e2 e3 e4 e5 hx hy hsz c4 hh hd he hp
  go_enter Try.func7, Try.ntmps7
  go_wp2_with fail
  refine (numerals_at rx 100 _ A c _ HX.out rfl (by decide) (by decide)).mono ?_
  rw [← HS.out]
  rintro e wa ⟨rfl, hba⟩
  have HBA := Lib.hid hba
  have HY' := Lib.hid (HY.out.below hba)
  clear hba
  go_wp2_with fail
  refine (numerals_at ry 100 _ B d _ HY'.out rfl (by decide) (by decide)).mono ?_
  rw [← HT.out]
  rintro e wb ⟨rfl, hbb⟩
  have HBB := Lib.hid hbb
  clear hbb
  go_wp2_with fail
  refine (rest_ok _ _ E1.out).mono ?_
  rintro e wc ⟨rfl, hbc⟩
  have HBC := Lib.hid hbc
  clear hbc
  go_wp2_with fail
  refine (rest_ok _ _ E2.out).mono ?_
  rintro e wd ⟨rfl, hbd⟩
  have HBD := Lib.hid hbd
  clear hbd
  go_wp2_with fail
  refine (rest_ok _ _ E3.out).mono ?_
  rintro e we ⟨rfl, hbe⟩
  have HBE := Lib.hid hbe
  clear hbe
  go_wp2_with fail
  refine (C4.out _).mono ?_
  rintro e wf ⟨rfl, hbf⟩
  have HBF := Lib.hid hbf
  clear hbf
  go_wp2_with fail
  have hbe : Below w.heap.size w wf := below_then' (below_then' (below_then' (below_then' (below_then' HBA.out HBB.out) HBC.out) HBD.out) HBE.out) HBF.out
  have HALL := Lib.hid hbe
  clear hbe
  obtain ⟨r10, r11⟩ := r1
  obtain ⟨r20, r21⟩ := r2
  go_loop [7, 15] (fun a i => ∃ k : Nat, k ≤ T.size ∧ i = .int .i64 k ∧ a = .int .i64 (shiftI k (restL S.data.toList))) (fun _ i => T.size - (intOf i).toNat)
  case atStart => exact ⟨0, by omega, rfl, rfl⟩
  case round =>
    obtain ⟨k, hk, rfl, rfl⟩ := hrel
    obtain ⟨z0, z1⟩ := shiftI_bound k (restL S.data.toList) r10 r11
    by_cases hlt : k < T.size
    · go_wp2
      go_round
      case rel => exact ⟨k + 1, by omega, by go_num, by simp only [shiftI]⟩
      case measure => simp [intOf]; omega
    · obtain rfl : k = T.size := by omega
      go_wp2
      go_ret
      exact ⟨ret_bool (by first | exact HP.out | (simp only [bytes_append]; exact HP.out)), HALL.out⟩
end Go.Proofs.Ytdomipmfghnfaaa.RestJoins
