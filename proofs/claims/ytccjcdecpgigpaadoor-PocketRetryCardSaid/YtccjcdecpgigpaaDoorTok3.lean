/- Contracts of token.Format and token.field. -/
import Derived.Test.YtccjcdecpgigpaaDoorTok2
import Derived.Test.YtccjcdecpgigpaaDoorShow
import Derived.Deep.RegionLaw
namespace Go.Proofs.YtccjcdecpgigpaaDoor.Tok
open Go.RowKit Go.Proofs.YtccjcdecpgigpaaDoor.Base Go.Proofs.YtccjcdecpgigpaaDoor.Dig Go.Proofs.YtccjcdecpgigpaaDoor.Word Go.Proofs.YtccjcdecpgigpaaDoor.Bits
set_option linter.unusedVariables false
set_option linter.unusedSimpArgs false
set_option maxRecDepth 20000
def fmtS (t : Tk) : ByteArray := strOf (fmtL (97 * tokN t))
theorem fmtS_list (t : Tk) : (fmtS t).data.toList = fmtL (97 * tokN t) := strOf_data _
theorem fmtS_size (t : Tk) (h : faultI t = 0) : (fmtS t).size = 20 := by
  have := tokN_lt h
  rw [← bytes_len, fmtS_list, fmt_len _ (by omega)]
theorem repeat_l (k : Nat) : (⟨(Lib.repeatL [48] k).toArray⟩ : ByteArray) = strOf (List.replicate k 48) := by
  unfold strOf
  congr 2
  induction k with
  | zero => rfl
  | succ k ih => rw [List.replicate_succ, ← ih]; rfl
set_option maxHeartbeats 4000000 in
theorem format_yes (t : Tk) (h : faultI t = 0) (w : World) : Calls Tryd.prog 14 #[.agg t.vals] w fun e w' => e = .returned (.tuple #[.string (fmtS t), .int .i64 0]) ∧ Below w.heap.size w w' := by
  have hlt := tokN_lt h
  have HW := Lib.hid (fun W => words_yes t h W)
  have hok : (wN (97 * tokN t)).ok := wN_ok (by omega)
  have HS := Lib.hid (fun W => Show.show_any (wN (97 * tokN t)) W hok)
  have hnat : Show.natOf (wN (97 * tokN t)) = 97 * tokN t := by unfold Show.natOf; rw [wN_num]; omega
  rw [hnat] at HS
  have hdl : (decS (97 * tokN t)).length ≤ 20 := decS_len 19 _ (by omega)
  have hf : strOf (List.replicate (20 - (decS (97 * tokN t)).length) 48) ++ strOf (decS (97 * tokN t)) = fmtS t := by
    apply bytes_ext
    rw [bytes_append, strOf_data, strOf_data, fmtS_list]
    rfl
  have hsz := strOf_size (decS (97 * tokN t))
  have HR := Lib.hid (fun W => Tryd.strings_Repeat ⟨#[48]⟩ (20 - (decS (97 * tokN t)).length) W (by omega) (by show 1 * _ ≤ _; omega))
  rw [show (⟨#[48]⟩ : ByteArray).data.toList = [48] from rfl, repeat_l] at HR
  have hzz := strOf_size (List.replicate (20 - (decS (97 * tokN t)).length) (48 : UInt8))
  rw [List.length_replicate] at hzz
  clear hlt hok hnat h
  generalize (decS (97 * tokN t)).length = n at *
  generalize strOf (List.replicate (20 - n) 48) = z at *
  generalize strOf (decS (97 * tokN t)) = s at *
  generalize fmtS t = f at *
  generalize wN (97 * tokN t) = x at *
  obtain ⟨x0, x1, x2⟩ := x
  obtain ⟨cl, id, am, tag⟩ := t
  unfold Tk.vals at HW ⊢
  simp only at HW HS ⊢
  have hsub : (20 : Int) - (s.size : Int) = ((20 - n : Nat) : Int) := by omega
  have hsub' : (20 : Int) - (n : Int) = ((20 - n : Nat) : Int) := by omega
  have HSUB := Lib.hid hsub'
  have HN := Lib.hid hdl
  clear hsub hsub'
  go_enter Tryd.func14, Tryd.ntmps14
  go_wp2_with (fail)
  go_at_call 36
  refine (HW.out _).mono ?_
  rintro e w1 ⟨rfl, hb⟩
  have hwz1 := hb.size
  try simp at hwz1
  have HBw1 : Hid (Below w.heap.size w w1) := Lib.hid (below_then' (by repeat (first | with_reducible exact Below.refl _ _ | with_reducible refine blw_alloc ?_ _ | with_reducible refine Below.drew ?_ | with_reducible refine blw_step ?_ _ | with_reducible refine Below.setCell (p := ⟨_, _, none⟩) ?_ (by first | exact Nat.le_refl _ | (simp; done) | (simp; omega) | omega) _)) hb)
  clear hb
  go_wp2_with (fail)
  go_at_call 37
  refine (HS.out _).mono ?_
  rintro e w2 ⟨rfl, hb⟩
  have hwz2 := hb.size
  try simp at hwz2
  have HBw2 : Hid (Below w.heap.size w w2) := Lib.hid (below_then' (by repeat (first | with_reducible exact HBw1.out | with_reducible refine blw_alloc ?_ _ | with_reducible refine Below.drew ?_ | with_reducible refine blw_step ?_ _ | with_reducible refine Below.setCell (p := ⟨_, _, none⟩) ?_ (by first | exact Nat.le_refl _ | (simp; done) | (simp; omega) | omega) _)) hb)
  clear hb
  go_wp2_with fail
  go_at_call 38
  rw [HSUB.out]
  refine (HR.out _).mono ?_
  rintro e w3 ⟨rfl, hb⟩
  have HB3 := Lib.hid (below_then' HBw2.out hb)
  clear hb
  go_wp2_with fail
  go_ret2
  exact ⟨rfl, HB3.out⟩
set_option maxHeartbeats 4000000 in
theorem field_any (q at_ n p : Nat) (w : World) (hq : q < 79228162514264337593543950336) (h1 : 1 ≤ n) (h2 : n ≤ 62) (h3 : at_ + n ≤ 96) (hp : Cs w p [.int .i64 (at_ : Int)]) :
    Calls Tryd.prog 42 #[.agg #[.int .u32 (wN q).a, .int .u32 (wN q).b, .int .u32 (wN q).c], .pointer (some ⟨p, 0, none⟩), .int .i64 (n : Int)] w fun e w' => e = .returned (.int .i64 (bitsN q at_ n : Nat)) ∧ Cs w' p [.int .i64 ((at_ + n : Nat) : Int)] ∧ (∀ g vs, g ≠ p → Cs w g vs → Cs w' g vs) ∧ ∀ B, B ≤ p → B ≤ w.heap.size → Below B w w' := by
  have HB := Lib.hid (fun W => bits_any (q % 4294967296) (q / 4294967296 % 4294967296) (q / 18446744073709551616) at_ n W (by omega) (by omega) (by omega) h1 (by omega) h3)
  rw [show q % 4294967296 + q / 4294967296 % 4294967296 * 4294967296 + q / 18446744073709551616 * 18446744073709551616 = q from by omega] at HB
  have hw : wN q = ⟨((q % 4294967296 : Nat) : Int), ((q / 4294967296 % 4294967296 : Nat) : Int), ((q / 18446744073709551616 : Nat) : Int)⟩ := rfl
  have hbl : bitsN q at_ n < 2 ^ n := Nat.mod_lt _ (Nat.two_pow_pos _)
  have hbl2 : bitsN q at_ n < 4611686018427387904 := Nat.lt_of_lt_of_le hbl (Nat.le_trans (Nat.pow_le_pow_right (by decide) h2) (by decide))
  rw [hw]
  simp only
  clear hw hbl hq
  generalize ((q % 4294967296 : Nat) : Int) = x0 at *
  generalize ((q / 4294967296 % 4294967296 : Nat) : Int) = x1 at *
  generalize ((q / 18446744073709551616 : Nat) : Int) = x2 at *
  generalize bitsN q at_ n = v at *
  have HP := Lib.hid hp
  have lp := hp.1
  have pg := (hp.at 0 rfl).1
  have pf := (hp.at 0 rfl).2
  clear hp
  go_enter Tryd.func42, Tryd.ntmps42
  go_upto_region 1 with fail
  go_cut [7] (fun s7 wx => s7 = .int .u64 (v : Int) ∧ Below w.heap.size w wx)
  case first =>
    go_region_law (first | (go_simp; go_at_call 43; refine (HB.out _).mono ?_; rintro e w1 ⟨rfl, hb⟩))
    all_goals
      have HBX : Hid (Below w.heap.size w w1) := Lib.hid (below_then' (by repeat (first | with_reducible exact Below.refl _ _ | with_reducible refine blw_alloc ?_ _ | with_reducible refine Below.drew ?_)) hb)
      clear hb
      go_wp2_with fail
      go_meet
      exact ⟨rfl, HBX.out⟩
  case rest =>
    obtain ⟨rfl, hb⟩ := hcut
    have HBW := Lib.hid hb
    have CP := Lib.hid (HP.out.after hb)
    clear hb pg pf
    have pg := (CP.out.at 0 rfl).1
    have pf := (CP.out.at 0 rfl).2
    go_wp2_with fail
    go_ret
    refine ⟨rfl, ?_, fun g vs hg h => ?_, fun B hB hB2 => ?_⟩
    · rw [Int.natCast_add]
      exact Cs.put (i := 0) CP.out (by simp) rfl
    · exact (h.after HBW.out).other (a := ⟨p, 0, none⟩) (fun e => hg e.symm) _
    · exact (HBW.out.mono hB2).setCell (p := ⟨p, 0, none⟩) hB _
end Go.Proofs.YtccjcdecpgigpaaDoor.Tok
