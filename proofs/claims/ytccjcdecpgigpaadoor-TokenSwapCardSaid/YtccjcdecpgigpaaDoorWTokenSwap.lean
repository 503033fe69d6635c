/- The walk of TokenSwap. -/
import Derived.Test.YtccjcdecpgigpaaDoorTokQ
import Derived.Deep.RegionLaw
namespace Go.Proofs.YtccjcdecpgigpaaDoor.TokenSwap
open Go.RowKit Go.Proofs.YtccjcdecpgigpaaDoor.Base Go.Proofs.YtccjcdecpgigpaaDoor.Tok
set_option linter.unusedVariables false
set_option linter.unusedSimpArgs false
set_option maxRecDepth 20000
set_option maxHeartbeats 8000000 in
theorem walk (x : Tk) (cs : List Value) (at_ far_ : Int) (w : World) (hx : cs = x.vals.toList ∧ x.ok) (w1 : (Lit.int .i64 at_).wf = true) (w2 : (Lit.int .i64 far_).wf = true) :
    Calls Tryd.prog 3 #[.agg cs.toArray, .int .i64 at_, .int .i64 far_] w fun e w' => e = .returned (.bool true) ∧ Below w.heap.size w w' := by
  obtain ⟨rfl, xok⟩ := hx
  obtain ⟨a0, a1⟩ := i64_bound w1
  obtain ⟨b0, b1⟩ := i64_bound w2
  clear w1 w2
  show Calls Tryd.prog 3 #[.agg x.vals, .int .i64 at_, .int .i64 far_] w _
  have HM := Lib.hid (fun W => made_any x W xok)
  have hg := made_good x
  generalize madeT x = T at *
  have HF := Lib.hid (fun W => format_yes T hg W)
  have hs := fmtS_size T hg
  have HPK := Lib.hid (fun W => picked_any far_ 2 W b0 b1 (by omega))
  obtain ⟨f0, f1⟩ := pk_bound far_ 2 (by decide)
  obtain ⟨k, hk⟩ := Int.eq_ofNat_of_zero_le f0
  rw [hk] at HPK
  obtain ⟨far, hfar⟩ : ∃ f : Nat, f = 1 + k := ⟨_, rfl⟩
  have hfi : IntKind.i64.wrap (1 + (k : Int)) = (far : Int) := by rw [IntKind.wrap_i64]; omega
  have hfi' : RowKit.wrap64 ((1 : Int) + (k : Int)) = (far : Int) := by unfold RowKit.wrap64; omega
  obtain ⟨p0, p1⟩ := pk_bound at_ ((fmtS T).size - far) (by omega)
  obtain ⟨i, hi0⟩ := Int.eq_ofNat_of_zero_le p0
  have hi : i + far < (fmtS T).size := by omega
  have HW := Lib.hid (fun W => Num.swapped_any (fmtS T) at_ far W (by omega) (by omega) a0 a1 i hi hi0)
  have HP := Lib.hid (fun W => parse_full (Num.swapped (fmtS T) i far) W)
  have htold := swap_told T hg i far (by omega) (by omega) hi
  obtain ⟨ps1, ps2⟩ := parse_fmt hg
  have hsz : ((fmtS T).size : Int) = 20 := by omega
  by_cases he : (Num.swapped (fmtS T) i far).toList = (fmtS T).toList
  · have he2 : Num.swapped (fmtS T) i far = fmtS T := bytes_ext (by rw [← bytes_toList, ← bytes_toList, he])
    rw [he2] at HW HP
    rw [fmtS_list, ps1, ps2] at HP
    clear htold he he2 ps1 ps2 hi0 hi hs p0 p1 hg xok f0 f1
    have HFI := Lib.hid hfi'
    clear hk hfar hfi hfi'
    generalize fmtS T = S at *
    obtain ⟨rcl, rid, ram, rtag⟩ := x
    obtain ⟨cl, id, am, tag⟩ := T
    unfold Tk.vals at HM HF HP ⊢
    simp only at HM HF HP ⊢
    go_enter Tryd.func3, Tryd.ntmps3
    go_wp2_with (fail)
    go_at_call 15
    refine (HM.out _).mono ?_
    rintro e w1 ⟨rfl, hb⟩
    have hwz1 := hb.size
    try simp at hwz1
    have HBw1 : Hid (Below w.heap.size w w1) := Lib.hid (below_then' (by repeat (first | with_reducible exact Below.refl _ _ | with_reducible refine blw_alloc ?_ _ | with_reducible refine Below.drew ?_ | with_reducible refine blw_step ?_ _ | with_reducible refine Below.setCell (p := ⟨_, _, none⟩) ?_ (by first | exact Nat.le_refl _ | (simp; done) | (simp; omega) | omega) _)) hb)
    have Cxw1 : Hid (Cs w1 (w.heap.size) [.int .i64 rcl, .int .i64 rid, .int .i64 ram, .int .i64 rtag]) := Lib.hid ((show Cs _ (w.heap.size) [.int .i64 rcl, .int .i64 rid, .int .i64 ram, .int .i64 rtag] from (by (repeat (first | (with_reducible refine Cs.new ?_; focus (first | rfl | (simp; done) | omega)) | with_reducible refine Cs.alloc ?_ _ | with_reducible refine Cs.drew ?_ | with_reducible refine Cs.drewN ?_ _ | (with_reducible refine Cs.other ?_ ?_ _; focus (first | omega | (simp; omega))) | with_reducible apply Cs.put)) <;> first | rfl | (simp; done))).after hb)
    clear hb
    have lxw1 := Cxw1.out.1
    go_wp2_with (fail)
    go_at_call 14
    refine (HF.out _).mono ?_
    rintro e w2 ⟨rfl, hb⟩
    have hwz2 := hb.size
    try simp at hwz2
    have HBw2 : Hid (Below w.heap.size w w2) := Lib.hid (below_then' (by repeat (first | with_reducible exact HBw1.out | with_reducible refine blw_alloc ?_ _ | with_reducible refine Below.drew ?_ | with_reducible refine blw_step ?_ _ | with_reducible refine Below.setCell (p := ⟨_, _, none⟩) ?_ (by first | exact Nat.le_refl _ | (simp; done) | (simp; omega) | omega) _)) hb)
    have Cxw2 : Hid (Cs w2 (w.heap.size) [.int .i64 rcl, .int .i64 rid, .int .i64 ram, .int .i64 rtag]) := Lib.hid ((show Cs _ (w.heap.size) [.int .i64 rcl, .int .i64 rid, .int .i64 ram, .int .i64 rtag] from (by (repeat (first | with_reducible exact Cxw1.out | (with_reducible refine Cs.new ?_; focus (first | rfl | (simp; done) | omega)) | with_reducible refine Cs.alloc ?_ _ | with_reducible refine Cs.drew ?_ | with_reducible refine Cs.drewN ?_ _ | (with_reducible refine Cs.other ?_ ?_ _; focus (first | omega | (simp; omega))) | with_reducible apply Cs.put)) <;> first | rfl | (simp; done))).after hb)
    clear hb
    have lxw2 := Cxw2.out.1
    go_wp2_with (fail)
    go_at_call 17
    refine (HPK.out _).mono ?_
    rintro e w' ⟨rfl, rfl⟩
    go_wp2_with (fail)
    go_at_call 16
    rw [HFI.out]
    refine (HW.out _).mono ?_
    rintro e w3 ⟨rfl, hb⟩
    have HBw3 : Hid (Below w.heap.size w w3) := Lib.hid (below_then' HBw2.out hb)
    have Cxw3 := Lib.hid (Cxw2.out.after hb)
    clear hb
    go_wp2_with (fail)
    go_at_call 18
    refine (HP.out _).mono ?_
    rintro e w4 ⟨rfl, hb⟩
    have hwz4 := hb.size
    try simp at hwz4
    have HBw4 : Hid (Below w.heap.size w w4) := Lib.hid (below_then' (by repeat (first | with_reducible exact HBw3.out | with_reducible refine blw_alloc ?_ _ | with_reducible refine Below.drew ?_ | with_reducible refine blw_step ?_ _ | with_reducible refine Below.setCell (p := ⟨_, _, none⟩) ?_ (by first | exact Nat.le_refl _ | (simp; done) | (simp; omega) | omega) _)) hb)
    have Cxw4 : Hid (Cs w4 (w.heap.size) [.int .i64 rcl, .int .i64 rid, .int .i64 ram, .int .i64 rtag]) := Lib.hid ((show Cs _ (w.heap.size) [.int .i64 rcl, .int .i64 rid, .int .i64 ram, .int .i64 rtag] from (by (repeat (first | with_reducible exact Cxw3.out | (with_reducible refine Cs.new ?_; focus (first | rfl | (simp; done) | omega)) | with_reducible refine Cs.alloc ?_ _ | with_reducible refine Cs.drew ?_ | with_reducible refine Cs.drewN ?_ _ | (with_reducible refine Cs.other ?_ ?_ _; focus (first | omega | (simp; omega))) | with_reducible apply Cs.put)) <;> first | rfl | (simp; done))).after hb)
    clear hb
    have lxw4 := Cxw4.out.1
    go_upto_region 7 with fail
    obtain ⟨u, hu⟩ : ∃ u, u = w4.alloc (.cells #[.int .i64 cl, .int .i64 id, .int .i64 am, .int .i64 tag] 27) := ⟨_, rfl⟩
    have Cxu : Hid (Cs u (w.heap.size) [.int .i64 rcl, .int .i64 rid, .int .i64 ram, .int .i64 rtag]) := Lib.hid (by rw [hu]; exact Cs.alloc Cxw4.out _)
    have Ctu : Hid (Cs u (w4.heap.size) [.int .i64 cl, .int .i64 id, .int .i64 am, .int .i64 tag]) := Lib.hid (by rw [hu]; exact Cs.new rfl)
    have HBu : Hid (Below w.heap.size w u) := Lib.hid (by rw [hu]; exact blw_alloc HBw4.out _)
    rw [← hu]
    clear hu
    have lxu := Cxu.out.1
    have xug0 := (Cxu.out.at 0 rfl).1
    have xug1 := (Cxu.out.at 1 rfl).1
    have xug2 := (Cxu.out.at 2 rfl).1
    have xug3 := (Cxu.out.at 3 rfl).1
    have ltu := Ctu.out.1
    have tug0 := (Ctu.out.at 0 rfl).1
    have tug1 := (Ctu.out.at 1 rfl).1
    have tug2 := (Ctu.out.at 2 rfl).1
    have tug3 := (Ctu.out.at 3 rfl).1
    go_cut [6] (fun s6 wx => s6 = .bool true ∧ Below w.heap.size w wx)
    case first =>
      go_region_law (first | (go_simp; go_at_call 15; refine (HM.out _).mono ?_; rintro e v1 ⟨rfl, hb1⟩; have HBV : Hid (Below w.heap.size w v1) := Lib.hid (below_then' HBu.out.drew hb1); have t1g0 := ((Ctu.out.drew.after hb1).at 0 rfl).1; have t1g1 := ((Ctu.out.drew.after hb1).at 1 rfl).1; have t1g2 := ((Ctu.out.drew.after hb1).at 2 rfl).1; have t1g3 := ((Ctu.out.drew.after hb1).at 3 rfl).1; have lv1 := hb1.size))
      all_goals
        go_wp2_with fail
        go_meet
        exact ⟨rfl, HBV.out⟩
    case rest =>
      obtain ⟨rfl, hb⟩ := hcut
      have HBX := Lib.hid hb
      clear hb
      go_wp2_with fail
      go_ret
      exact ⟨rfl, HBX.out⟩
  · have hne : ((Num.swapped (fmtS T) i far).toList == (fmtS T).toList) = false := beq_eq_false_iff_ne.mpr he
    have ht := htold he
    clear htold he ps1 ps2 hi0 hi hs p0 p1 hg xok f0 f1
    have HFI := Lib.hid hfi'
    clear hk hfar hfi hfi'
    generalize Num.swapped (fmtS T) i far = S2 at *
    generalize parseE S2.data.toList = c at *
    generalize parseT S2.data.toList = P at *
    generalize fmtS T = S at *
    obtain ⟨rcl, rid, ram, rtag⟩ := x
    obtain ⟨cl, id, am, tag⟩ := T
    obtain ⟨pcl, pid, pam, ptag⟩ := P
    unfold Tk.vals at HM HF HP ⊢
    simp only at HM HF HP ⊢
    go_enter Tryd.func3, Tryd.ntmps3
    go_wp2_with (fail)
    go_at_call 15
    refine (HM.out _).mono ?_
    rintro e w1 ⟨rfl, hb⟩
    have hwz1 := hb.size
    try simp at hwz1
    have HBw1 : Hid (Below w.heap.size w w1) := Lib.hid (below_then' (by repeat (first | with_reducible exact Below.refl _ _ | with_reducible refine blw_alloc ?_ _ | with_reducible refine Below.drew ?_ | with_reducible refine blw_step ?_ _ | with_reducible refine Below.setCell (p := ⟨_, _, none⟩) ?_ (by first | exact Nat.le_refl _ | (simp; done) | (simp; omega) | omega) _)) hb)
    have Cxw1 : Hid (Cs w1 (w.heap.size) [.int .i64 rcl, .int .i64 rid, .int .i64 ram, .int .i64 rtag]) := Lib.hid ((show Cs _ (w.heap.size) [.int .i64 rcl, .int .i64 rid, .int .i64 ram, .int .i64 rtag] from (by (repeat (first | (with_reducible refine Cs.new ?_; focus (first | rfl | (simp; done) | omega)) | with_reducible refine Cs.alloc ?_ _ | with_reducible refine Cs.drew ?_ | with_reducible refine Cs.drewN ?_ _ | (with_reducible refine Cs.other ?_ ?_ _; focus (first | omega | (simp; omega))) | with_reducible apply Cs.put)) <;> first | rfl | (simp; done))).after hb)
    clear hb
    have lxw1 := Cxw1.out.1
    go_wp2_with (fail)
    go_at_call 14
    refine (HF.out _).mono ?_
    rintro e w2 ⟨rfl, hb⟩
    have hwz2 := hb.size
    try simp at hwz2
    have HBw2 : Hid (Below w.heap.size w w2) := Lib.hid (below_then' (by repeat (first | with_reducible exact HBw1.out | with_reducible refine blw_alloc ?_ _ | with_reducible refine Below.drew ?_ | with_reducible refine blw_step ?_ _ | with_reducible refine Below.setCell (p := ⟨_, _, none⟩) ?_ (by first | exact Nat.le_refl _ | (simp; done) | (simp; omega) | omega) _)) hb)
    have Cxw2 : Hid (Cs w2 (w.heap.size) [.int .i64 rcl, .int .i64 rid, .int .i64 ram, .int .i64 rtag]) := Lib.hid ((show Cs _ (w.heap.size) [.int .i64 rcl, .int .i64 rid, .int .i64 ram, .int .i64 rtag] from (by (repeat (first | with_reducible exact Cxw1.out | (with_reducible refine Cs.new ?_; focus (first | rfl | (simp; done) | omega)) | with_reducible refine Cs.alloc ?_ _ | with_reducible refine Cs.drew ?_ | with_reducible refine Cs.drewN ?_ _ | (with_reducible refine Cs.other ?_ ?_ _; focus (first | omega | (simp; omega))) | with_reducible apply Cs.put)) <;> first | rfl | (simp; done))).after hb)
    clear hb
    have lxw2 := Cxw2.out.1
    go_wp2_with (fail)
    go_at_call 17
    refine (HPK.out _).mono ?_
    rintro e w' ⟨rfl, rfl⟩
    go_wp2_with (fail)
    go_at_call 16
    rw [HFI.out]
    refine (HW.out _).mono ?_
    rintro e w3 ⟨rfl, hb⟩
    have HBw3 : Hid (Below w.heap.size w w3) := Lib.hid (below_then' HBw2.out hb)
    have Cxw3 := Lib.hid (Cxw2.out.after hb)
    clear hb
    go_wp2_with (fail)
    go_at_call 18
    refine (HP.out _).mono ?_
    rintro e w4 ⟨rfl, hb⟩
    have hwz4 := hb.size
    try simp at hwz4
    have HBw4 : Hid (Below w.heap.size w w4) := Lib.hid (below_then' (by repeat (first | with_reducible exact HBw3.out | with_reducible refine blw_alloc ?_ _ | with_reducible refine Below.drew ?_ | with_reducible refine blw_step ?_ _ | with_reducible refine Below.setCell (p := ⟨_, _, none⟩) ?_ (by first | exact Nat.le_refl _ | (simp; done) | (simp; omega) | omega) _)) hb)
    have Cxw4 : Hid (Cs w4 (w.heap.size) [.int .i64 rcl, .int .i64 rid, .int .i64 ram, .int .i64 rtag]) := Lib.hid ((show Cs _ (w.heap.size) [.int .i64 rcl, .int .i64 rid, .int .i64 ram, .int .i64 rtag] from (by (repeat (first | with_reducible exact Cxw3.out | (with_reducible refine Cs.new ?_; focus (first | rfl | (simp; done) | omega)) | with_reducible refine Cs.alloc ?_ _ | with_reducible refine Cs.drew ?_ | with_reducible refine Cs.drewN ?_ _ | (with_reducible refine Cs.other ?_ ?_ _; focus (first | omega | (simp; omega))) | with_reducible apply Cs.put)) <;> first | rfl | (simp; done))).after hb)
    clear hb
    have lxw4 := Cxw4.out.1
    rcases ht with rfl | rfl
    all_goals
      go_wp2_with fail
      go_ret
      exact ⟨rfl, blw_alloc HBw4.out _⟩
end Go.Proofs.YtccjcdecpgigpaaDoor.TokenSwap
