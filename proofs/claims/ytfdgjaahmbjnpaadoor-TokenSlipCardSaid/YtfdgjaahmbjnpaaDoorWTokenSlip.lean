/- The walk of TokenSlip. -/
import Derived.Test.YtfdgjaahmbjnpaaDoorTokQ
namespace Go.Proofs.YtfdgjaahmbjnpaaDoor.TokenSlip
open Go.RowKit Go.Proofs.YtfdgjaahmbjnpaaDoor.Base Go.Proofs.YtfdgjaahmbjnpaaDoor.Tok
set_option linter.unusedVariables false
set_option linter.unusedSimpArgs false
set_option maxRecDepth 20000
set_option maxHeartbeats 4000000 in
theorem walk (x : Tk) (cs : List Value) (at_ by_ : Int) (w : World) (hx : cs = x.vals.toList ∧ x.ok) (w1 : (Lit.int .i64 at_).wf = true) (w2 : (Lit.int .i64 by_).wf = true) :
    Calls Tryd.prog 8 #[.agg cs.toArray, .int .i64 at_, .int .i64 by_] w fun e w' => e = .returned (.bool true) ∧ Below w.heap.size w w' := by
  obtain ⟨rfl, xok⟩ := hx
  obtain ⟨a0, a1⟩ := i64_bound w1
  obtain ⟨b0, b1⟩ := i64_bound w2
  clear w1 w2
  show Calls Tryd.prog 8 #[.agg x.vals, .int .i64 at_, .int .i64 by_] w _
  have HM := Lib.hid (fun W => made_any x W xok)
  have hg := made_good x
  generalize madeT x = T at *
  have HF := Lib.hid (fun W => format_yes T hg W)
  have hs := fmtS_size T hg
  obtain ⟨p0, p1⟩ := pk_bound at_ (fmtS T).size (by omega)
  obtain ⟨i, hi0⟩ := Int.eq_ofNat_of_zero_le p0
  have hi : i < (fmtS T).size := by omega
  obtain ⟨q0, q1⟩ := pk_bound by_ 9 (by decide)
  have HS := Lib.hid (fun W => Num.slipped_any (fmtS T) at_ by_ W (by omega) (by omega) a0 a1 b0 b1 i hi hi0 (Chk.allDig_at _ (fmtS_dig T) i hi))
  have htold := slip_told T hg i hi (pk by_ 9) q0 q1
  have HP := Lib.hid (fun W => parse_full (Num.slipped (fmtS T) i (Num.slipD ((fmtS T)[i]'hi) (pk by_ 9)).toNat) W)
  generalize Num.slipped (fmtS T) i (Num.slipD ((fmtS T)[i]'hi) (pk by_ 9)).toNat = S2 at *
  generalize parseE S2.data.toList = c at *
  generalize parseT S2.data.toList = P at *
  have hsz : ((fmtS T).size : Int) = 20 := by omega
  clear hi0 hi hs p0 p1 q0 q1 hg xok
  generalize fmtS T = S at *
  obtain ⟨rcl, rid, ram, rtag⟩ := x
  obtain ⟨cl, id, am, tag⟩ := T
  obtain ⟨pcl, pid, pam, ptag⟩ := P
  unfold Tk.vals at HM HF HP ⊢
  simp only at HM HF HP ⊢
  go_enter Tryd.func8, Tryd.ntmps8
  go_wp2_with (fail)
  go_at_call 16
  refine (HM.out _).mono ?_
  rintro e w1 ⟨rfl, hb⟩
  have hwz1 := hb.size
  try simp at hwz1
  have HBw1 : Hid (Below w.heap.size w w1) := Lib.hid (below_then' (by repeat (first | with_reducible exact Below.refl _ _ | with_reducible refine blw_alloc ?_ _ | with_reducible refine Below.drew ?_ | with_reducible refine blw_step ?_ _ | with_reducible refine Below.setCell (p := ⟨_, _, none⟩) ?_ (by first | exact Nat.le_refl _ | (simp; done) | (simp; omega) | omega) _)) hb)
  clear hb
  go_wp2_with (fail)
  go_at_call 17
  refine (HF.out _).mono ?_
  rintro e w2 ⟨rfl, hb⟩
  have hwz2 := hb.size
  try simp at hwz2
  have HBw2 : Hid (Below w.heap.size w w2) := Lib.hid (below_then' (by repeat (first | with_reducible exact HBw1.out | with_reducible refine blw_alloc ?_ _ | with_reducible refine Below.drew ?_ | with_reducible refine blw_step ?_ _ | with_reducible refine Below.setCell (p := ⟨_, _, none⟩) ?_ (by first | exact Nat.le_refl _ | (simp; done) | (simp; omega) | omega) _)) hb)
  clear hb
  go_wp2_with (fail)
  go_at_call 14
  refine (HS.out _).mono ?_
  rintro e w3 ⟨rfl, hb⟩
  have hwz3 := hb.size
  try simp at hwz3
  have HBw3 : Hid (Below w.heap.size w w3) := Lib.hid (below_then' (by repeat (first | with_reducible exact HBw2.out | with_reducible refine blw_alloc ?_ _ | with_reducible refine Below.drew ?_ | with_reducible refine blw_step ?_ _ | with_reducible refine Below.setCell (p := ⟨_, _, none⟩) ?_ (by first | exact Nat.le_refl _ | (simp; done) | (simp; omega) | omega) _)) hb)
  clear hb
  go_wp2_with (fail)
  go_at_call 18
  refine (HP.out _).mono ?_
  rintro e w4 ⟨rfl, hb⟩
  have hwz4 := hb.size
  try simp at hwz4
  have HBw4 : Hid (Below w.heap.size w w4) := Lib.hid (below_then' (by repeat (first | with_reducible exact HBw3.out | with_reducible refine blw_alloc ?_ _ | with_reducible refine Below.drew ?_ | with_reducible refine blw_step ?_ _ | with_reducible refine Below.setCell (p := ⟨_, _, none⟩) ?_ (by first | exact Nat.le_refl _ | (simp; done) | (simp; omega) | omega) _)) hb)
  clear hb
  rcases htold with rfl | rfl
  all_goals
    go_wp2_with fail
    go_ret
    exact ⟨rfl, blw_alloc HBw4.out _⟩
end Go.Proofs.YtfdgjaahmbjnpaaDoor.TokenSlip
