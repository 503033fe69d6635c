/- The walk of PadUndo. -/
import Derived.Test.YthalkihhkkgkiaaDoorPad2
import Derived.Test.YthalkihhkkgkiaaDoorOpenS
import Derived.Deep.RegionLaw
namespace Go.Proofs.YthalkihhkkgkiaaDoor.PadUndo
open Go.RowKit Go.Proofs.YthalkihhkkgkiaaDoor.Base Go.Proofs.YthalkihhkkgkiaaDoor.Pad Go.Proofs.YthalkihhkkgkiaaDoor.Num
set_option linter.unusedVariables false
set_option linter.unusedSimpArgs false
set_option maxRecDepth 20000
theorem num_list (raw : List UInt8) (most : Nat) (hm : 0 < most) : ∃ d, strOf d = numerals raw most ∧ d.length ≤ most ∧ ∀ c ∈ d, isDg c = true := by
  refine ⟨(numerals raw most).data.toList, bytes_ext (strOf_data _), ?_, ?_⟩
  · unfold numerals
    split
    · simp; omega
    · rw [strOf_data]
      unfold numL
      simp
      omega
  · intro c hc
    unfold numerals at hc
    split at hc
    · simp at hc
      subst hc
      decide
    · rw [strOf_data] at hc
      unfold numL at hc
      obtain ⟨x, _, rfl⟩ := List.mem_map.1 hc
      have h := digOf_val x
      have hx := x.toNat_lt
      unfold isDg
      simp
      omega
theorem undo (d : List UInt8) (bad : Bool) (hl : d.length ≤ 29) (hd : ∀ c ∈ d, isDg c = true) (n k : Int) (k0 : 0 ≤ k) (k1 : k ≤ 9) :
    ∃ d2, pressP ⟨d, bad⟩ (scriptI n + k) = (⟨d2, bad⟩, none) ∧ (⟨d2, bad⟩ : Pd).ok ∧ pressP ⟨d2, bad⟩ 42 = (⟨d, bad⟩, none) ∧ (strOf d2).toList ≠ (strOf d).toList := by
  obtain ⟨hv, _, n1, n2, n3, n4, n5⟩ := script_val n k k0 k1
  have hp : pressP ⟨d, bad⟩ (scriptI n + k) = (⟨d ++ [UInt8.ofNat (48 + k.toNat)], bad⟩, none) := by
    unfold pressP
    rw [if_neg (by omega), if_neg n4, if_neg n5, if_neg (by rw [hv]; simp only; omega), hv]
  refine ⟨_, hp, ?_, ?_, ?_⟩
  · have := press_ok ⟨d, bad⟩ (scriptI n + k) ⟨by simp only; omega, hd⟩
    rw [hp] at this
    exact this
  · unfold pressP
    rw [if_neg (by omega), if_pos rfl]
    simp
  · rw [bytes_toList, bytes_toList, strOf_data, strOf_data]
    intro h
    have := congrArg List.length h
    simp at this
set_option maxHeartbeats 8000000 in
theorem walk (raw : List UInt8) (A : Option Addr) (c : Nat) (empty bad : Bool) (key inn : Int) (w : World) (hr : RdE 1 encB w A raw) (w1 : (Lit.int .i64 key).wf = true) (w2 : (Lit.int .i64 inn).wf = true) :
    Calls Tryd.prog 5 #[.slice A raw.length c, .bool empty, .bool bad, .int .i64 key, .int .i64 inn] w fun e w' => e = .returned (.bool true) ∧ Below w.heap.size w w' := by
  obtain ⟨a0, a1⟩ := i64_bound w1
  obtain ⟨b0, b1⟩ := i64_bound w2
  clear w1 w2
  obtain ⟨dn, hdn, hln, hdg⟩ := num_list raw 29 (by decide)
  have HN := Lib.hid (fun W (h : RdE 1 encB W A raw) => numerals_at raw 29 29 A c W h rfl (by decide) (by decide))
  rw [← hdn] at HN
  have HR := Lib.hid hr
  obtain ⟨q0, q1⟩ := pk_bound key 10 (by decide)
  have HPK := Lib.hid (fun W => picked_any key 10 W a0 a1 (by omega))
  have HSC := Lib.hid (fun W => script_any inn W b0 b1)
  obtain ⟨hv, ⟨z0, z1⟩, _⟩ := script_val inn (pk key 10) q0 (by omega)
  obtain ⟨d, hd⟩ : ∃ d, d = if empty then ([] : List UInt8) else dn := ⟨_, rfl⟩
  obtain ⟨d2, hp, hok2, hbk, hne⟩ := undo d bad (by rw [hd]; cases empty <;> first | exact hln | (simp; done)) (by rw [hd]; cases empty <;> first | exact hdg | (intro c hc; cases hc)) inn (pk key 10) q0 (by omega)
  have HP1 := Lib.hid (fun W => Press_none ⟨d, bad⟩ (scriptI inn + pk key 10) W ⟨by simp only; rw [hd]; cases empty <;> first | exact Nat.le_succ_of_le hln | (simp; done), by simp only; rw [hd]; cases empty <;> first | exact hdg | (intro c hc; cases hc)⟩ (by omega) (by omega) (by rw [hp]))
  have HP2 := Lib.hid (fun W => Press_none ⟨d2, bad⟩ 42 W hok2 (by omega) (by omega) (by rw [hbk]))
  rw [hp] at HP1
  rw [hbk] at HP2
  have hwr : IntKind.i32.wrap (scriptI inn + pk key 10) = scriptI inn + pk key 10 := by rw [IntKind.wrap_i32]; omega
  have hne' : ((strOf d2).toList == (strOf d).toList) = false := beq_eq_false_iff_ne.mpr hne
  have hds : strOf d = if empty then (⟨#[]⟩ : ByteArray) else strOf dn := by rw [hd]; cases empty <;> rfl
  clear hp hbk hok2 hne hr hdg hdn hln hv
  unfold Pd.vals at HP1 HP2
  simp only at HP1 HP2
  have hwk : IntKind.i32.wrap (pk key 10) = pk key 10 := by rw [IntKind.wrap_i32]; omega
  generalize pk key 10 = kk at *
  generalize scriptI inn = zz at *
  have hpl : RowKit.wrap32 (zz + kk) = zz + kk := by unfold RowKit.wrap32; omega
  have hpk2 : RowKit.wrap32 kk = kk := by unfold RowKit.wrap32; omega
  generalize strOf d = s at *
  generalize strOf d2 = s2 at *
  generalize strOf dn = sn at *
  clear hd
  generalize raw.length = rl at *
  go_enter Tryd.func5, Tryd.ntmps5
  go_wp2_with (fail)
  go_at_call 7
  refine (HN.out _ HR.out).mono ?_
  rintro e w1 ⟨rfl, hb⟩
  have hwz1 := hb.size
  try simp at hwz1
  have HBw1 : Hid (Below w.heap.size w w1) := Lib.hid (below_then' (by repeat (first | with_reducible exact Below.refl _ _ | with_reducible refine blw_alloc ?_ _ | with_reducible refine Below.drew ?_ | with_reducible refine blw_step ?_ _ | with_reducible refine Below.setCell (p := ⟨_, _, none⟩) ?_ (by first | exact Nat.le_refl _ | (simp; done) | (simp; omega) | omega) _)) hb)
  clear hb
  go_upto_if 22 with fail
  obtain ⟨u, hu⟩ : ∃ u, u = w1.alloc (.cells #[.string sn, .bool bad] 26) := ⟨_, rfl⟩
  have Cpu : Hid (Cs u (w1.heap.size) [.string sn, .bool bad]) := Lib.hid (by rw [hu]; exact Cs.new rfl)
  have HBu : Hid (Below w.heap.size w u) := Lib.hid (by rw [hu]; exact blw_alloc HBw1.out _)
  have hu1 : w.heap.size ≤ w1.heap.size := HBw1.out.size
  rw [← hu]
  clear hu
  go_cut [] (fun wx => Cs wx w1.heap.size [.string s, .bool bad] ∧ Below w.heap.size w wx)
  case first =>
    have pg := (Cpu.out.at 0 rfl).1
    have pf := (Cpu.out.at 0 rfl).2
    have lp := Cpu.out.1
    cases empty
    all_goals
      simp only [Bool.false_eq_true, if_false, if_true] at hds
      subst hds
      go_wp2_with fail
      go_meet
    · exact ⟨Cpu.out, HBu.out⟩
    · exact ⟨Cs.put (i := 0) Cpu.out (by simp) rfl, HBu.out.setCell (p := ⟨w1.heap.size, 0, none⟩) hu1 _⟩
  case rest =>
    obtain ⟨hcp, hbc⟩ := hcut
    have Cpc := Lib.hid hcp
    have HBc := Lib.hid hbc
    have hzc := hbc.size
    clear hcp hbc Cpu HBu hds
    have cpg0 := (Cpc.out.at 0 rfl).1
    have cpg1 := (Cpc.out.at 1 rfl).1
    have lp := Cpc.out.1
    go_upto_region 4 with fail
    go_cut [12, 13, 14] (fun s12 s13 s14 wx => ∃ q, s12 = .pointer (some ⟨q, 0, none⟩) ∧ s13 = .slice none 0 0 ∧ s14 = .int .i64 0 ∧ Cs wx q [.string s2, .bool bad] ∧ Cs wx w1.heap.size [.string s, .bool bad] ∧ Below w.heap.size w wx)
    case first =>
      go_region_law (first | (go_simp; go_at_call 9; refine (HSC.out _).mono ?_; rintro e v0 ⟨rfl, rfl⟩) | (go_simp; go_at_call 11; refine (HPK.out _).mono ?_; rintro e v0 ⟨rfl, rfl⟩) | (go_simp; go_at_call 10; refine (HP1.out _).mono ?_; rintro e v1 ⟨rfl, hb1⟩; have hz1 := hb1.size; have HBV : Hid (Below w.heap.size w v1) := Lib.hid (below_then' (by repeat (first | with_reducible exact HBc.out | with_reducible refine blw_alloc ?_ _ | with_reducible refine Below.drew ?_)) hb1); have CPV : Hid (Cs v1 w1.heap.size [.string s, .bool bad]) := Lib.hid (Cs.after (by repeat (first | with_reducible exact Cpc.out | with_reducible refine Cs.alloc ?_ _ | with_reducible refine Cs.drew ?_)) hb1); (try have CQ : Hid (Cs v1 (wc.heap.size) [.string ⟨#[]⟩, .bool false]) := Lib.hid (by first | exact (Cs.new rfl).after hb1 | exact (Cs.new rfl).drew.after hb1 | exact (Cs.new (by simp)).after hb1)); (try have qg0 := (CQ.out.at 0 rfl).1); (try have qg1 := (CQ.out.at 1 rfl).1); (try have qf0 := (CQ.out.at 0 rfl).2); (try have qf1 := (CQ.out.at 1 rfl).2); (try have lq := CQ.out.1)))
      all_goals go_wp2_with fail
      all_goals go_meet
      all_goals first
        | exact ⟨_, rfl, rfl, rfl, Cs.new rfl, Cs.alloc CPV.out _, blw_alloc HBV.out _⟩
        | exact ⟨wc.heap.size, rfl, rfl, rfl, Cs.put (i := 1) (Cs.put (i := 0) CQ.out (by simp) rfl) (by simp) rfl, Cs.other (a := ⟨wc.heap.size, 1, none⟩) (by simp; omega) (Cs.other (a := ⟨wc.heap.size, 0, none⟩) (by simp; omega) CPV.out _) _, (HBV.out.setCell (p := ⟨wc.heap.size, 0, none⟩) (by simp; omega) _).setCell (p := ⟨wc.heap.size, 1, none⟩) (by simp; omega) _⟩
    case rest =>
      obtain ⟨q, rfl, rfl, rfl, hq, hp, hb⟩ := hcut
      have Cqx := Lib.hid hq
      have Cpx := Lib.hid hp
      have HBx := Lib.hid hb
      clear hq hp hb cpg0 cpg1
      have lqx := Cqx.out.1
      have qxg0 := (Cqx.out.at 0 rfl).1
      have qxg1 := (Cqx.out.at 1 rfl).1
      go_wp2_with (fail)
      go_at_call 10
      refine (HP2.out _).mono ?_
      rintro e w9 ⟨rfl, hb⟩
      have hwz9 := hb.size
      try simp at hwz9
      have HBw9 : Hid (Below w.heap.size w w9) := Lib.hid (below_then' (by repeat (first | with_reducible exact HBx.out | with_reducible refine blw_alloc ?_ _ | with_reducible refine Below.drew ?_ | with_reducible refine blw_step ?_ _ | with_reducible refine Below.setCell (p := ⟨_, _, none⟩) ?_ (by first | exact Nat.le_refl _ | (simp; done) | (simp; omega) | omega) _)) hb)
      have Cqw9 : Hid (Cs w9 (q) [.string s2, .bool bad]) := Lib.hid ((show Cs _ (q) [.string s2, .bool bad] from (by (repeat (first | with_reducible exact Cqx.out | (with_reducible refine Cs.new ?_; focus (first | rfl | (simp; done) | omega)) | with_reducible refine Cs.alloc ?_ _ | with_reducible refine Cs.drew ?_ | with_reducible refine Cs.drewN ?_ _ | (with_reducible refine Cs.other ?_ ?_ _; focus (first | omega | (simp; omega))) | with_reducible apply Cs.put)) <;> first | rfl | (simp; done))).after hb)
      have Cpw9 : Hid (Cs w9 (w1.heap.size) [.string s, .bool bad]) := Lib.hid ((show Cs _ (w1.heap.size) [.string s, .bool bad] from (by (repeat (first | with_reducible exact Cpx.out | (with_reducible refine Cs.new ?_; focus (first | rfl | (simp; done) | omega)) | with_reducible refine Cs.alloc ?_ _ | with_reducible refine Cs.drew ?_ | with_reducible refine Cs.drewN ?_ _ | (with_reducible refine Cs.other ?_ ?_ _; focus (first | omega | (simp; omega))) | with_reducible apply Cs.put)) <;> first | rfl | (simp; done))).after hb)
      clear qxg0 qxg1 hb
      have lqw9 := Cqw9.out.1
      have qw9g0 := (Cqw9.out.at 0 rfl).1
      have qw9g1 := (Cqw9.out.at 1 rfl).1
      have lpw9 := Cpw9.out.1
      have pw9g0 := (Cpw9.out.at 0 rfl).1
      have pw9g1 := (Cpw9.out.at 1 rfl).1
      go_wp2_with fail
      go_ret
      exact ⟨rfl, blw_alloc HBw9.out _⟩
end Go.Proofs.YthalkihhkkgkiaaDoor.PadUndo
