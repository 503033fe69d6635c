/- The walk of TokenTwin. -/
import Derived.Test.YtccjcdecpgigpaaDoorTokQ
namespace Go.Proofs.YtccjcdecpgigpaaDoor.TokenTwin
open Go.RowKit Go.Proofs.YtccjcdecpgigpaaDoor.Base Go.Proofs.YtccjcdecpgigpaaDoor.Tok Go.Proofs.YtccjcdecpgigpaaDoor.Num Go.Proofs.YtccjcdecpgigpaaDoor.Chk Go.Proofs.YtccjcdecpgigpaaDoor.Rest
set_option linter.unusedVariables false
set_option linter.unusedSimpArgs false
set_option maxRecDepth 20000
def twin (r : ByteArray) (i : Nat) : ByteArray := r.extract 0 (i + 1) ++ r.extract i (i + 1) ++ r.extract (i + 2) r.size
theorem plain (S : ByteArray) (hs : S.size = 20) (hd : allDig S = true) (h0 : restL S.data.toList = 0) (i : Nat) (hi : i + 1 < S.size) (he : S[i]'(by omega) = S[i + 1]'hi) (b : Int) (hb0 : 0 ≤ b) (hb1 : b < 9) :
    parseE (twin (slipped S i (slipD (S[i]'(by omega)) b).toNat) i).data.toList = 8 ∨ parseE (twin (slipped S i (slipD (S[i]'(by omega)) b).toNat) i).data.toList = 2 := by
  obtain ⟨c1, c2⟩ := allDig_at _ hd i (by omega)
  obtain ⟨v0, v9, hv, hne⟩ := slip_val (S[i]'(by omega)) b ⟨c1, c2⟩ hb0 hb1
  obtain ⟨d, hdd⟩ : ∃ d, d = UInt8.ofNat (48 + ((slipD (S[i]'(by omega)) b).toNat : Int)).toNat := ⟨_, rfl⟩
  obtain ⟨r, hr⟩ : ∃ r, r = slipped S i (slipD (S[i]'(by omega)) b).toNat := ⟨_, rfl⟩
  have hl : r.data.toList = S.data.toList.take i ++ [d] ++ S.data.toList.drop (i + 1) := by rw [hr, slip_list, hdd]
  have hrs : r.size = 20 := by rw [hr, slip_size _ _ _ (by omega)]; exact hs
  rw [← hdd] at hv hne
  rw [← hr]
  have hlen : (S.data.toList.take i).length = i := by rw [List.length_take, bytes_len]; omega
  have ht : (twin r i).data.toList = S.data.toList.take i ++ [d] ++ [d] ++ S.data.toList.drop (i + 2) := by
    unfold twin
    rw [bytes_append, bytes_append, bytes_extract, bytes_extract, bytes_extract, List.drop_zero, List.take_of_length_le (l := r.data.toList) (i := r.size) (by rw [bytes_len]; exact Nat.le_refl _), hl]
    have e1 : (S.data.toList.take i ++ [d] ++ S.data.toList.drop (i + 1)).take (i + 1) = S.data.toList.take i ++ [d] := List.take_left' (by simp [hlen])
    have e2 : (S.data.toList.take i ++ [d]).drop i = [d] := List.drop_left' hlen
    have e3 : (S.data.toList.take i ++ [d] ++ S.data.toList.drop (i + 1)).drop (i + 2) = S.data.toList.drop (i + 2) := by
      rw [List.drop_append, List.drop_of_length_le (by simp [hlen]), List.nil_append, List.drop_drop]
      congr 1
      simp [hlen]
    rw [e1, e2, e3]
  have h1 := bytes_split S i (by omega)
  have h2 : S.data.toList.drop (i + 1) = [S[i]'(by omega)] ++ S.data.toList.drop (i + 2) := by
    rw [he, List.drop_eq_getElem_cons (by rw [bytes_len]; omega)]
    have := bytes_at S (i + 1) hi
    rw [List.getElem?_eq_getElem (by rw [bytes_len]; omega)] at this
    rw [Option.some.inj this]
    rfl
  have hS : S.data.toList = S.data.toList.take i ++ [S[i]'(by omega)] ++ [S[i]'(by omega)] ++ S.data.toList.drop (i + 2) := by
    conv => lhs; rw [h1, h2]
    simp
  have hw := rest_twin (S.data.toList.take i) (S.data.toList.drop (i + 2)) (S[i]'(by omega)) d ⟨c1, c2⟩ (by rw [hv]; omega) hne
  rw [← hS, h0, ← ht] at hw
  refine told _ ?_ ?_ (fun e => hw e.symm)
  · rw [← bytes_len, ht]
    simp [hlen]
    omega
  · unfold allDig at hd ⊢
    rw [List.all_eq_true] at hd ⊢
    intro c hc
    rw [ht] at hc
    simp only [List.mem_append, List.mem_singleton] at hc
    have hdig : digB d = true := by unfold digB; rw [hv]; simp; omega
    rcases hc with ((hc | rfl) | rfl) | hc
    · exact hd c (List.mem_of_mem_take hc)
    · exact hdig
    · exact hdig
    · exact hd c (List.mem_of_mem_drop hc)
set_option maxHeartbeats 8000000 in
theorem walk (x : Tk) (cs : List Value) (at_ far_ : Int) (w : World) (hx : cs = x.vals.toList ∧ x.ok) (w1 : (Lit.int .i64 at_).wf = true) (w2 : (Lit.int .i64 far_).wf = true) :
    Calls Tryd.prog 4 #[.agg cs.toArray, .int .i64 at_, .int .i64 far_] w fun e w' => e = .returned (.bool true) ∧ Below w.heap.size w w' := by
  obtain ⟨rfl, xok⟩ := hx
  obtain ⟨a0, a1⟩ := i64_bound w1
  obtain ⟨b0, b1⟩ := i64_bound w2
  clear w1 w2
  show Calls Tryd.prog 4 #[.agg x.vals, .int .i64 at_, .int .i64 far_] w _
  have HM := Lib.hid (fun W => made_any x W xok)
  have hg := made_good x
  generalize madeT x = T at *
  have HF := Lib.hid (fun W => format_yes T hg W)
  have hs := fmtS_size T hg
  have HPK := Lib.hid (fun W => picked_any at_ 19 W a0 a1 (by omega))
  obtain ⟨p0, p1⟩ := pk_bound at_ 19 (by decide)
  obtain ⟨i, hi0⟩ := Int.eq_ofNat_of_zero_le p0
  rw [hi0] at HPK
  have hi : i + 1 < (fmtS T).size := by omega
  have hi' : i < (fmtS T).size := by omega
  have hpi : pk (i : Int) (fmtS T).size = i := by unfold pk; rw [if_neg (by omega), hs]; omega
  obtain ⟨q0, q1⟩ := pk_bound far_ 9 (by decide)
  have HSL := Lib.hid (fun W => Num.slipped_any (fmtS T) (i : Int) far_ W (by omega) (by omega) (by omega) (by omega) b0 b1 i hi' hpi (Chk.allDig_at _ (fmtS_dig T) i hi'))
  have hplain := plain (fmtS T) hs (fmtS_dig T) (fmtS_rest T) i hi
  have hsz : ((fmtS T).size : Int) = 20 := by omega
  have hsn : (fmtS T).size = 20 := by omega
  have hib : (i : Int) + 1 < 20 := by omega
  have hib0 : (i : Int) < 20 := by omega
  have hib00 : 0 ≤ (i : Int) + 1 := by omega
  by_cases he : (fmtS T)[i]'hi' = (fmtS T)[i + 1]'hi
  · have htold := hplain he (pk far_ 9) q0 q1
    obtain ⟨R, hR⟩ : ∃ R, R = slipped (fmtS T) i (slipD ((fmtS T)[i]'hi') (pk far_ 9)).toNat := ⟨_, rfl⟩
    rw [← hR] at htold HSL
    have hRs : R.size = 20 := by rw [hR, slip_size _ _ _ hi']; exact hsn
    have HP := Lib.hid (fun W => parse_full (twin R i) W)
    have hbe : (((fmtS T)[i]'hi').toNat : Int) = (((fmtS T)[i + 1]'hi).toNat : Int) := by rw [he]
    generalize parseE (twin R i).data.toList = c at *
    generalize parseT (twin R i).data.toList = P at *
    have HTW := Lib.hid (show twin R i = R.extract 0 (i + 1) ++ R.extract i (i + 1) ++ R.extract (i + 2) 20 from by unfold twin; rw [hRs])
    have z1 : (R.extract 0 (i + 1)).size ≤ 20 := by rw [← bytes_len, bytes_extract]; simp; omega
    have z2 : (R.extract i (i + 1)).size ≤ 20 := by rw [← bytes_len, bytes_extract]; simp; omega
    have z3 : (R.extract (i + 2) R.size).size ≤ 20 := by rw [← bytes_len, bytes_extract]; simp; omega
    clear hplain q0 q1 p0 p1 hi0 hpi hs hg xok hR he
    generalize twin R i = R2 at *
    generalize hSS : fmtS T = S at *
    clear hSS
    obtain ⟨rcl, rid, ram, rtag⟩ := x
    obtain ⟨cl, id, am, tag⟩ := T
    obtain ⟨pcl, pid, pam, ptag⟩ := P
    unfold Tk.vals at HM HF HP ⊢
    simp only at HM HF HP ⊢
    go_enter Tryd.func4, Tryd.ntmps4
    go_wp2_with (fail)
    go_at_call 15
    refine (HM.out _).mono ?_
    rintro e w1 ⟨rfl, hb⟩
    have hwz1 := hb.size
    try simp at hwz1
    have HBw1 : Hid (Below w.heap.size w w1) := Lib.hid (below_then' (by repeat (first | with_reducible exact Below.refl _ _ | with_reducible refine blw_alloc ?_ _ | with_reducible refine Below.drew ?_ | with_reducible refine blw_step ?_ _ | with_reducible refine Below.setCell (p := ⟨_, _, none⟩) ?_ (by first | exact Nat.le_refl _ | (simp; done) | (simp; omega) | omega) _)) hb)
    clear hb
    go_wp2_with (fail)
    go_at_call 14
    refine (HF.out _).mono ?_
    rintro e w2 ⟨rfl, hb⟩
    have hwz2 := hb.size
    try simp at hwz2
    have HBw2 : Hid (Below w.heap.size w w2) := Lib.hid (below_then' (by repeat (first | with_reducible exact HBw1.out | with_reducible refine blw_alloc ?_ _ | with_reducible refine Below.drew ?_ | with_reducible refine blw_step ?_ _ | with_reducible refine Below.setCell (p := ⟨_, _, none⟩) ?_ (by first | exact Nat.le_refl _ | (simp; done) | (simp; omega) | omega) _)) hb)
    clear hb
    go_wp2_with (fail)
    go_at_call 17
    refine (HPK.out _).mono ?_
    rintro e w' ⟨rfl, rfl⟩
    go_wp2_with (fail)
    go_region
    go_wp2_with (fail)
    go_at_call 19
    refine (HSL.out _).mono ?_
    rintro e w3 ⟨rfl, hb⟩
    have HB3 : Hid (Below w.heap.size w w3) := Lib.hid (below_then' HBw2.out.drew hb)
    clear hb
    have hRi : (R.size : Int) = 20 := by omega
    have hi2 : (i : Int) + 2 ≤ 20 := by omega
    have hi1 : (i : Int) ≤ (i : Int) + 1 := by omega
    have hi3 : 0 ≤ (i : Int) + 2 := by omega
    have hi4 : (i : Int) + 1 ≤ 20 := by omega
    go_wp2_with (fail)
    go_region
    go_wp2_with (fail)
    go_at_call 18
    rw [← HTW.out]
    refine (HP.out _).mono ?_
    rintro e w4 ⟨rfl, hb⟩
    have HB4 : Hid (Below w.heap.size w w4) := Lib.hid (below_then' HB3.out.drew hb)
    clear hb
    rcases htold with rfl | rfl
    all_goals
      go_wp2_with fail
      go_ret
      exact ⟨rfl, blw_alloc HB4.out _⟩
  · have hbe : (((((fmtS T)[i]'hi').toNat : Int)) != (((fmtS T)[i + 1]'hi).toNat : Int)) = true := by
      rw [bne_iff_ne]
      intro h
      exact he (UInt8.toNat_inj.1 (by omega))
    clear hplain q0 q1 p0 p1 hi0 hpi hs hg xok he HSL
    generalize hSS : fmtS T = S at *
    clear hSS
    obtain ⟨rcl, rid, ram, rtag⟩ := x
    obtain ⟨cl, id, am, tag⟩ := T
    unfold Tk.vals at HM HF ⊢
    simp only at HM HF ⊢
    go_enter Tryd.func4, Tryd.ntmps4
    go_wp2_with (fail)
    go_at_call 15
    refine (HM.out _).mono ?_
    rintro e w1 ⟨rfl, hb⟩
    have hwz1 := hb.size
    try simp at hwz1
    have HBw1 : Hid (Below w.heap.size w w1) := Lib.hid (below_then' (by repeat (first | with_reducible exact Below.refl _ _ | with_reducible refine blw_alloc ?_ _ | with_reducible refine Below.drew ?_ | with_reducible refine blw_step ?_ _ | with_reducible refine Below.setCell (p := ⟨_, _, none⟩) ?_ (by first | exact Nat.le_refl _ | (simp; done) | (simp; omega) | omega) _)) hb)
    clear hb
    go_wp2_with (fail)
    go_at_call 14
    refine (HF.out _).mono ?_
    rintro e w2 ⟨rfl, hb⟩
    have hwz2 := hb.size
    try simp at hwz2
    have HBw2 : Hid (Below w.heap.size w w2) := Lib.hid (below_then' (by repeat (first | with_reducible exact HBw1.out | with_reducible refine blw_alloc ?_ _ | with_reducible refine Below.drew ?_ | with_reducible refine blw_step ?_ _ | with_reducible refine Below.setCell (p := ⟨_, _, none⟩) ?_ (by first | exact Nat.le_refl _ | (simp; done) | (simp; omega) | omega) _)) hb)
    clear hb
    go_wp2_with (fail)
    go_at_call 17
    refine (HPK.out _).mono ?_
    rintro e w' ⟨rfl, rfl⟩
    go_wp2_with (fail)
    go_region
    go_wp2_with (fail)
    go_ret
    exact ⟨rfl, HBw2.out.drew⟩
end Go.Proofs.YtccjcdecpgigpaaDoor.TokenTwin
