/- Contracts: receipt.Meter (begun, for NumberSlip). -/
import Derived.Test.YtfdgjaahmbjnpaaDoorRcp
import Derived.Test.YtfdgjaahmbjnpaaDoorChk2
import Derived.Test.YtfdgjaahmbjnpaaDoorShelf
namespace Go.Proofs.YtfdgjaahmbjnpaaDoor.Rcp
open Go Go.RowKit Go.Proofs.YtfdgjaahmbjnpaaDoor.Base Go.Proofs.YtfdgjaahmbjnpaaDoor.Chk
set_option linter.unusedVariables false
set_option linter.unusedSimpArgs false
set_option maxRecDepth 20000
/-- Eleven digits whose check digit is wrong. -/
theorem Meter_bad (s : ByteArray) (w : World) (hd : allDig s = true) (h11 : s.size = 11) (hb : allI s 0 ≠ 0) : Calls Tryd.prog 13 #[.string s] w fun e w' => e = .returned (.tuple #[.int .i64 0, .int .i64 8]) ∧ Below w.heap.size w w' := by
  have hz : digitsE s = 0 := by unfold digitsE; rw [if_neg (by omega), hd]; rfl
  have HR := Lib.hid (fun W => rest_ok s W hz)
  have HG := Lib.hid (fun W => good_any s W hd (by omega) (by omega))
  have hbb : (allI s 0 == 0) = false := beq_eq_false_iff_ne.mpr hb
  rw [hbb] at HG
  have hsz : (s.size : Int) = 11 := by omega
  clear hz hbb hb hd
  generalize restL s.data.toList = rl at *
  go_enter Tryd.func13, Tryd.ntmps13
  go_wp2_with (first | (go_at_call 24; refine (HR.out _).mono ?_; rintro e w1 ⟨rfl, hb1⟩; have HB1 := Lib.hid hb1; clear hb1) | (go_at_call 25; refine (HG.out _).mono ?_; rintro e w2 ⟨rfl, hb2⟩; have HB2 := Lib.hid hb2; clear hb2))
  go_ret2
  exact ⟨rfl, below_then' HB1.out HB2.out⟩
/-- A meter's number, whole. -/
theorem Meter_good (s : ByteArray) (m : Nat) (c : UInt8) (w : World) (hm : m < 50) (hs : s.data.toList = tenL m ++ [c]) (hd : allDig s = true) (hb : allI s 0 = 0) : Calls Tryd.prog 13 #[.string s] w fun e w' => e = .returned (.tuple #[.int .i64 m, .int .i64 0]) ∧ Below w.heap.size w w' := by
  have h11 : s.size = 11 := by
    have h := congrArg List.length hs
    rw [List.length_append, ten_len m hm] at h
    simpa using h
  have hz : digitsE s = 0 := by unfold digitsE; rw [if_neg (by omega), hd]; rfl
  have HR := Lib.hid (fun W => rest_ok s W hz)
  have HG := Lib.hid (fun W => good_any s W hd (by omega) (by omega))
  have hbb : (allI s 0 == 0) = true := beq_iff_eq.mpr hb
  rw [hbb] at HG
  have hsz : (s.size : Int) = 11 := by omega
  have hx : (s.extract 0 10).data.toList = tenL m := by
    rw [ByteArray.data_extract, Array.toList_extract, List.extract_eq_take_drop, hs]
    simp [ten_len m hm]
  have HA := Lib.hid (fun W => Tryd.strconv_Atoi (s.extract 0 10) m (by have h := congrArg List.length hx; rw [ten_len m hm] at h; simp at h ⊢; omega) (by rw [hx]; exact ten_atoi m hm) W)
  have hm0 : ¬ (50 : Int) ≤ (m : Int) := by omega
  clear hz hbb hb hd hx hs
  generalize restL s.data.toList = rl at *
  go_enter Tryd.func13, Tryd.ntmps13
  go_wp2_with (first | (go_at_call 24; refine (HR.out _).mono ?_; rintro e w1 ⟨rfl, hb1⟩; have HB1 := Lib.hid hb1; clear hb1) | (go_at_call 25; refine (HG.out _).mono ?_; rintro e w2 ⟨rfl, hb2⟩; have HB2 := Lib.hid hb2; clear hb2) | (go_at_call 26; refine (HA.out _).mono ?_; rintro e w3 ⟨rfl, hb3⟩; have HB3 := Lib.hid hb3; clear hb3))
  go_ret2
  obtain ⟨t, rfl⟩ := HB3.out
  refine ⟨rfl, ?_⟩
  have hg : Below w2.heap.size w2 (Lib.bytesWorld w2 5 t) := by first | exact Lib.bytesWorld_below _ _ _ | exact bytesWorld_below _ _ _ | exact Shelf.bytesWorld_below _ _ _ | exact Proofs.bytesWorld_below _ _ _
  exact below_then' (below_then' HB1.out HB2.out) hg
end Go.Proofs.YtfdgjaahmbjnpaaDoor.Rcp
