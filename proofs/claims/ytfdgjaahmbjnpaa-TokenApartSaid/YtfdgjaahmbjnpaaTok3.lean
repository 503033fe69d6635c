/- Contracts of token.Format and token.field. -/
import Derived.Test.YtfdgjaahmbjnpaaTok2
import Derived.Test.YtfdgjaahmbjnpaaShow
import Derived.Deep.RegionLaw
namespace Go.Proofs.Ytfdgjaahmbjnpaa.Tok
open Go.RowKit Go.Proofs.Ytfdgjaahmbjnpaa.Base Go.Proofs.Ytfdgjaahmbjnpaa.Dig Go.Proofs.Ytfdgjaahmbjnpaa.Word Go.Proofs.Ytfdgjaahmbjnpaa.Bits
set_option linter.unusedVariables false
set_option linter.unusedSimpArgs false
set_option maxRecDepth 20000
def fmtS (t : Tk) : ByteArray := strOf (fmtL (97 * tokN t))
theorem fmtS_list (t : Tk) : (fmtS t).data.toList = fmtL (97 * tokN t) := strOf_data _
theorem fmtS_size (t : Tk) (h : faultI t = 0) : (fmtS t).size = 20 := by
  have := tokN_lt h
  rw [← bytes_len, fmtS_list, fmt_len _ (by omega)]
theorem repeat_l (k : Nat) : (⟨(Lib.repeatL [48] k).toArray⟩ : ByteArray) = strOf (List.replicate k 48) := by
  unfold strOf
  congr 2
  induction k with
  | zero => rfl
  | succ k ih => rw [List.replicate_succ, ← ih]; rfl
set_option maxHeartbeats 4000000 in
theorem format_yes (t : Tk) (h : faultI t = 0) (w : World) : Calls Try.prog 27 #[.agg t.vals] w fun e w' => e = .returned (.tuple #[.string (fmtS t), .int .i64 0]) ∧ Below w.heap.size w w' := by
  have hlt := tokN_lt h
  have HW := Lib.hid (fun W => words_yes t h W)
  have hok : (wN (97 * tokN t)).ok := wN_ok (by omega)
  have HS := Lib.hid (fun W => Show.show_any (wN (97 * tokN t)) W hok)
  have hnat : Show.natOf (wN (97 * tokN t)) = 97 * tokN t := by unfold Show.natOf; rw [wN_num]; omega
  rw [hnat] at HS
  have hdl : (decS (97 * tokN t)).length ≤ 20 := decS_len 19 _ (by omega)
  have hf : strOf (List.replicate (20 - (decS (97 * tokN t)).length) 48) ++ strOf (decS (97 * tokN t)) = fmtS t := by
    apply bytes_ext
    rw [bytes_append, strOf_data, strOf_data, fmtS_list]
    rfl
  have hsz := strOf_size (decS (97 * tokN t))
  have HR := Lib.hid (fun W => Try.strings_Repeat ⟨#[48]⟩ (20 - (decS (97 * tokN t)).length) W (by omega) (by show 1 * _ ≤ _; omega))
  rw [show (⟨#[48]⟩ : ByteArray).data.toList = [48] from rfl, repeat_l] at HR
  have hzz := strOf_size (List.replicate (20 - (decS (97 * tokN t)).length) (48 : UInt8))
  rw [List.length_replicate] at hzz
  clear hlt hok hnat h
  generalize (decS (97 * tokN t)).length = n at *
  generalize strOf (List.replicate (20 - n) 48) = z at *
  generalize strOf (decS (97 * tokN t)) = s at *
  generalize fmtS t = f at *
  generalize wN (97 * tokN t) = x at *
  obtain ⟨x0, x1, x2⟩ := x
  obtain ⟨cl, id, am, tag⟩ := t
  unfold Tk.vals at HW ⊢
  simp only at HW HS ⊢
  have hsub : (20 : Int) - (s.size : Int) = ((20 - n : Nat) : Int) := by omega
  have hsub' : (20 : Int) - (n : Int) = ((20 - n : Nat) : Int) := by omega
  have HSUB := Lib.hid hsub'
  have HN := Lib.hid hdl
  clear hsub hsub'
  go_enter Try.func27, Try.ntmps27
  go_wp2_with (fail)
  go_at_call 53
  refine (HW.out _).mono ?_
  rintro e w1 ⟨rfl, hb⟩
  have hwz1 := hb.size
  try simp at hwz1
  have HBw1 : Hid (Below w.heap.size w w1) := Lib.hid (below_then' (by repeat (first | with_reducible exact Below.refl _ _ | with_reducible refine blw_alloc ?_ _ | with_reducible refine Below.drew ?_ | with_reducible refine blw_step ?_ _ | with_reducible refine Below.setCell (p := ⟨_, _, none⟩) ?_ (by first | exact Nat.le_refl _ | (simp; done) | (simp; omega) | omega) _)) hb)
  clear hb
  go_wp2_with (fail)
  go_at_call 54
  refine (HS.out _).mono ?_
  rintro e w2 ⟨rfl, hb⟩
  have hwz2 := hb.size
  try simp at hwz2
  have HBw2 : Hid (Below w.heap.size w w2) := Lib.hid (below_then' (by repeat (first | with_reducible exact HBw1.out | with_reducible refine blw_alloc ?_ _ | with_reducible refine Below.drew ?_ | with_reducible refine blw_step ?_ _ | with_reducible refine Below.setCell (p := ⟨_, _, none⟩) ?_ (by first | exact Nat.le_refl _ | (simp; done) | (simp; omega) | omega) _)) hb)
  clear hb
  go_wp2_with fail
  go_at_call 55
  rw [HSUB.out]
  refine (HR.out _).mono ?_
  rintro e w3 ⟨rfl, hb⟩
  have HB3 := Lib.hid (below_then' HBw2.out hb)
  clear hb
  go_wp2_with fail
  go_ret2
  exact ⟨rfl, HB3.out⟩













































end Go.Proofs.Ytfdgjaahmbjnpaa.Tok
