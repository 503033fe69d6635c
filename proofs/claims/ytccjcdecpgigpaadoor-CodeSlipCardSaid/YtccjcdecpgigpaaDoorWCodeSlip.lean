/- The walk of CodeSlip. -/
import Derived.Test.YtccjcdecpgigpaaDoorCode
import Derived.Test.YtccjcdecpgigpaaDoorMet5
import Derived.Test.YtccjcdecpgigpaaDoorWRestSwaps
namespace Go.Proofs.YtccjcdecpgigpaaDoor.CodeSlip
open Go Go.RowKit Go.Proofs.YtccjcdecpgigpaaDoor.Base Go.Proofs.YtccjcdecpgigpaaDoor.Met Go.Proofs.YtccjcdecpgigpaaDoor.Win Go.Proofs.YtccjcdecpgigpaaDoor.Lay Go.Proofs.YtccjcdecpgigpaaDoor.Code Go.Proofs.YtccjcdecpgigpaaDoor.Chk Go.Proofs.YtccjcdecpgigpaaDoor.Num Go.Proofs.YtccjcdecpgigpaaDoor.Rest Go.Proofs.YtccjcdecpgigpaaDoor.RestSwaps
set_option linter.unusedVariables false
set_option linter.unusedSimpArgs false
set_option maxRecDepth 20000
set_option maxHeartbeats 4000000 in
theorem walk (x : Nw) (cs : List Value) (at_ by_ far_ : Int) (w : World) (hx : cs = x.cs.toList ∧ x.ok) (w1 : (Lit.int .i64 at_).wf = true) (w2 : (Lit.int .i64 by_).wf = true) (w3 : (Lit.int .i64 far_).wf = true) (hT : Tb w) :
    Calls Tryd.prog 6 #[.agg cs.toArray, .int .i64 at_, .int .i64 by_, .int .i64 far_] w fun e w' => e = .returned (.bool true) ∧ Below w.heap.size w w' := by
  obtain ⟨rfl, xok⟩ := hx
  obtain ⟨a0, a1⟩ := i64_bound w1
  obtain ⟨b0, b1⟩ := i64_bound w2
  obtain ⟨c0, c1⟩ := i64_bound w3
  clear w1 w2 w3
  show Calls Tryd.prog 6 #[.agg x.cs, .int .i64 at_, .int .i64 by_, .int .i64 far_] w _
  have HN := Lib.hid (fun W => newMeter_any x W xok)
  have HPK := Lib.hid (fun W => picked_any far_ 3 W c0 c1 (by omega))
  obtain ⟨f0, f1⟩ := pk_bound far_ 3 (by decide)
  obtain ⟨far, hfar⟩ := Int.eq_ofNat_of_zero_le f0
  rw [hfar] at HPK f1
  obtain ⟨k1, k2⟩ := Nw.good x
  have HC := Lib.hid (fun W hW => Code_yes x.mt W k1 k2 hW)
  obtain ⟨⟨l1, l2⟩, ⟨l3, l4⟩, l5, l6⟩ := Code.mmay_lim k2
  have HG := Lib.hid (fun W => Read_good (bs (codeL (mcode x.mt))) x.mt.me.toNat x.mt.cr.toNat x.mt.wh.toNat W (by omega) (by omega) (by omega) rfl)
  have hz : (bs (codeL (mcode x.mt))).size = 18 := by rw [bs_size, code_len _ (mcode_int k2).2]
  have hd : allDig (bs (codeL (mcode x.mt))) = true := by
    unfold allDig
    rw [bs_list, List.all_eq_true]
    exact fun c hc => code_dig _ c hc
  have hr0 : restL (bs (codeL (mcode x.mt))).data.toList = 0 := by
    rw [restL_N, rest_val _ (dg_all _ hd), bs_list, code_val]
    unfold mcode
    rw [codeN_mod]; rfl
  generalize bs (codeL (mcode x.mt)) = S at *
  generalize x.mt.me.toNat = gm at *
  generalize x.mt.cr.toNat = gc at *
  generalize x.mt.wh.toNat = gw at *
  obtain ⟨p0, p1⟩ := pk_bound at_ S.size (by omega)
  obtain ⟨i, hi0⟩ := Int.eq_ofNat_of_zero_le p0
  have hi : i < S.size := by omega
  obtain ⟨q0, q1⟩ := pk_bound by_ 9 (by decide)
  have dg := allDig_at S hd i hi
  have HSL := Lib.hid (fun W => slipped_any S at_ by_ W (by omega) (by omega) a0 a1 b0 b1 i hi hi0 dg)
  have ez := slip_size S i (slipD (S[i]'hi) (pk by_ 9)).toNat hi
  obtain ⟨s1, s2⟩ := slip_plain S (by omega) (by omega) hd i hi _ q0 q1
  have sd : allDig (slipped S i (slipD (S[i]'hi) (pk by_ 9)).toNat) = true := by
    obtain ⟨hD0, hD1, hv, hne⟩ := slip_val S[i] (pk by_ 9) dg q0 q1
    exact slip_dig S i _ hd (by unfold digB; rw [hv]; simp; omega)
  have HBS := Lib.hid (fun W => Read_bad (slipped S i (slipD (S[i]'hi) (pk by_ 9)).toNat) W sd (by omega) (by rw [← hr0]; exact Ne.symm s2))
  have hne : ((slipped S i (slipD (S[i]'hi) (pk by_ 9)).toNat).toList == S.toList) = false := by
    apply beq_eq_false_iff_ne.mpr
    intro h
    apply s2
    rw [← bytes_toList, ← bytes_toList, h]
  generalize slipped S i (slipD (S[i]'hi) (pk by_ 9)).toNat = T1 at *
  have HSW : ∀ (fr : Nat), 1 ≤ fr → fr ≤ 2 → ∃ T2, Hid (∀ W, Calls Tryd.prog 16 #[.string S, .int .i64 at_, .int .i64 fr] W fun e w' => e = .returned (.string T2) ∧ Below W.heap.size W w') ∧ (T2 = S ∨ ((T2.toList == S.toList) = false ∧ Hid (∀ W, Calls Tryd.prog 22 #[.string T2] W fun e w' => e = .returned (.tuple #[.agg #[.int .i64 0, .int .i64 0, .int .i64 0], .int .i64 8]) ∧ Below W.heap.size W w'))) := by
    intro fr r0 r1
    obtain ⟨x0, x1⟩ := pk_bound at_ ((S.size : Int) - (fr : Nat)) (by omega)
    obtain ⟨j, hj0⟩ := Int.eq_ofNat_of_zero_le x0
    have hj : j + fr < S.size := by omega
    refine ⟨swapped S j fr, Lib.hid (fun W => swapped_any S at_ fr W r0 (by omega) a0 a1 j hj hj0), ?_⟩
    have hp := RestSwaps.plain S j fr r0 r1 hj hd
    by_cases h : (swapped S j fr).toList = S.toList
    · exact .inl (bytes_ext (by rw [← bytes_toList, ← bytes_toList, h]))
    · refine .inr ⟨beq_eq_false_iff_ne.mpr h, Lib.hid (fun W => Read_bad _ W (swapped_dig S j fr r0 hj hd) (by rw [swapped_size S j fr r0 hj]; exact hz) ?_)⟩
      rw [beq_eq_false_iff_ne.mpr (fun e => h e.symm), beq_eq_false_iff_ne] at hp
      rw [← hr0]
      exact Ne.symm hp
  have hz2 : (S.size : Int) = 18 := by omega
  clear sd s1 s2 ez dg hi0 hi p0 p1 q0 q1 hd hr0 hfar k1 k2 l1 l2 l3 l4 l5 l6 xok f0
  have HT := Lib.hid hT
  clear hT hz
  generalize x.mt = m at *
  obtain ⟨me, rev, cr, wh, wb, bad, lock⟩ := m
  obtain ⟨na, nb, nc, nd⟩ := x
  unfold Nw.cs Mt.vals at *
  simp only at HN HC ⊢
  rcases (by omega : far = 0 ∨ far = 1 ∨ far = 2) with rfl | rfl | rfl
  · clear HSW
    go_enter Tryd.func6, Tryd.ntmps6
    go_wp2_with (fail)
    go_at_call 20
    refine (HN.out _).mono ?_
    rintro e w1 ⟨rfl, hb⟩
    have hwz1 := hb.size
    try simp at hwz1
    have HBw1 : Hid (Below w.heap.size w w1) := Lib.hid (below_then' (by repeat (first | with_reducible exact Below.refl _ _ | with_reducible refine blw_alloc ?_ _ | with_reducible refine Below.drew ?_ | with_reducible refine blw_step ?_ _ | with_reducible refine Below.setCell (p := ⟨_, _, none⟩) ?_ (by first | exact Nat.le_refl _ | (simp; done) | (simp; omega) | omega) _)) hb)
    clear hb
    have T1 := Lib.hid (tb_below HT.out HBw1.out)
    have hs1 := HBw1.out.size
    go_wp2_with fail
    go_at_call 21
    refine (HC.out _ T1.out).mono ?_
    rintro e w2 ⟨rfl, hb⟩
    have HBw2 : Hid (Below w.heap.size w w2) := Lib.hid (below_then' HBw1.out hb)
    clear hb
    go_wp2_with fail
    go_at_call 19
    refine (HSL.out _).mono ?_
    rintro e w3 ⟨rfl, hb⟩
    have HBw3 : Hid (Below w.heap.size w w3) := Lib.hid (below_then' HBw2.out hb)
    clear hb
    go_wp2_with fail
    go_at_call 17
    refine (HPK.out _).mono ?_
    rintro e w' ⟨rfl, rfl⟩
    go_wp2_with fail
    go_at_call 22
    refine (HBS.out _).mono ?_
    rintro e w5 ⟨rfl, hb⟩
    have HBw5 : Hid (Below w.heap.size w w5) := Lib.hid (below_then' HBw3.out hb)
    clear hb
    go_wp2_with fail
    go_ret
    exact ⟨rfl, blw_alloc HBw5.out _⟩
  · obtain ⟨T2, HX, hT2⟩ := HSW 1 (by omega) (by omega)
    have HE := Lib.hid hT2
    clear hT2 HSW hne HBS
    go_enter Tryd.func6, Tryd.ntmps6
    go_wp2_with (fail)
    go_at_call 20
    refine (HN.out _).mono ?_
    rintro e w1 ⟨rfl, hb⟩
    have hwz1 := hb.size
    try simp at hwz1
    have HBw1 : Hid (Below w.heap.size w w1) := Lib.hid (below_then' (by repeat (first | with_reducible exact Below.refl _ _ | with_reducible refine blw_alloc ?_ _ | with_reducible refine Below.drew ?_ | with_reducible refine blw_step ?_ _ | with_reducible refine Below.setCell (p := ⟨_, _, none⟩) ?_ (by first | exact Nat.le_refl _ | (simp; done) | (simp; omega) | omega) _)) hb)
    clear hb
    have T1 := Lib.hid (tb_below HT.out HBw1.out)
    have hs1 := HBw1.out.size
    go_wp2_with fail
    go_at_call 21
    refine (HC.out _ T1.out).mono ?_
    rintro e w2 ⟨rfl, hb⟩
    have HBw2 : Hid (Below w.heap.size w w2) := Lib.hid (below_then' HBw1.out hb)
    clear hb
    go_wp2_with fail
    go_at_call 19
    refine (HSL.out _).mono ?_
    rintro e w3 ⟨rfl, hb⟩
    have HBw3 : Hid (Below w.heap.size w w3) := Lib.hid (below_then' HBw2.out hb)
    clear hb
    go_wp2_with fail
    go_at_call 17
    refine (HPK.out _).mono ?_
    rintro e w' ⟨rfl, rfl⟩
    go_wp2_with fail
    go_at_call 16
    refine (HX.out _).mono ?_
    rintro e w4 ⟨rfl, hb⟩
    have HBw4 : Hid (Below w.heap.size w w4) := Lib.hid (below_then' HBw3.out hb)
    clear hb
    rcases HE.out with hE | ⟨hN, HM2⟩
    · clear HE
      subst hE
      go_wp2_with fail
      go_at_call 22
      refine (HG.out _).mono ?_
      rintro e w5 ⟨rfl, hb⟩
      have HBw5 : Hid (Below w.heap.size w w5) := Lib.hid (below_then' HBw4.out hb)
      clear hb
      go_wp2_with fail
      go_ret
      exact ⟨rfl, blw_alloc HBw5.out _⟩
    · clear HE
      go_wp2_with fail
      go_at_call 22
      refine (HM2.out _).mono ?_
      rintro e w5 ⟨rfl, hb⟩
      have HBw5 : Hid (Below w.heap.size w w5) := Lib.hid (below_then' HBw4.out hb)
      clear hb
      go_wp2_with fail
      go_ret
      exact ⟨rfl, blw_alloc HBw5.out _⟩
  · obtain ⟨T2, HX, hT2⟩ := HSW 2 (by omega) (by omega)
    have HE := Lib.hid hT2
    clear hT2 HSW hne HBS
    go_enter Tryd.func6, Tryd.ntmps6
    go_wp2_with (fail)
    go_at_call 20
    refine (HN.out _).mono ?_
    rintro e w1 ⟨rfl, hb⟩
    have hwz1 := hb.size
    try simp at hwz1
    have HBw1 : Hid (Below w.heap.size w w1) := Lib.hid (below_then' (by repeat (first | with_reducible exact Below.refl _ _ | with_reducible refine blw_alloc ?_ _ | with_reducible refine Below.drew ?_ | with_reducible refine blw_step ?_ _ | with_reducible refine Below.setCell (p := ⟨_, _, none⟩) ?_ (by first | exact Nat.le_refl _ | (simp; done) | (simp; omega) | omega) _)) hb)
    clear hb
    have T1 := Lib.hid (tb_below HT.out HBw1.out)
    have hs1 := HBw1.out.size
    go_wp2_with fail
    go_at_call 21
    refine (HC.out _ T1.out).mono ?_
    rintro e w2 ⟨rfl, hb⟩
    have HBw2 : Hid (Below w.heap.size w w2) := Lib.hid (below_then' HBw1.out hb)
    clear hb
    go_wp2_with fail
    go_at_call 19
    refine (HSL.out _).mono ?_
    rintro e w3 ⟨rfl, hb⟩
    have HBw3 : Hid (Below w.heap.size w w3) := Lib.hid (below_then' HBw2.out hb)
    clear hb
    go_wp2_with fail
    go_at_call 17
    refine (HPK.out _).mono ?_
    rintro e w' ⟨rfl, rfl⟩
    go_wp2_with fail
    go_at_call 16
    refine (HX.out _).mono ?_
    rintro e w4 ⟨rfl, hb⟩
    have HBw4 : Hid (Below w.heap.size w w4) := Lib.hid (below_then' HBw3.out hb)
    clear hb
    rcases HE.out with hE | ⟨hN, HM2⟩
    · clear HE
      subst hE
      go_wp2_with fail
      go_at_call 22
      refine (HG.out _).mono ?_
      rintro e w5 ⟨rfl, hb⟩
      have HBw5 : Hid (Below w.heap.size w w5) := Lib.hid (below_then' HBw4.out hb)
      clear hb
      go_wp2_with fail
      go_ret
      exact ⟨rfl, blw_alloc HBw5.out _⟩
    · clear HE
      go_wp2_with fail
      go_at_call 22
      refine (HM2.out _).mono ?_
      rintro e w5 ⟨rfl, hb⟩
      have HBw5 : Hid (Below w.heap.size w w5) := Lib.hid (below_then' HBw4.out hb)
      clear hb
      go_wp2_with fail
      go_ret
      exact ⟨rfl, blw_alloc HBw5.out _⟩
end Go.Proofs.YtccjcdecpgigpaaDoor.CodeSlip
