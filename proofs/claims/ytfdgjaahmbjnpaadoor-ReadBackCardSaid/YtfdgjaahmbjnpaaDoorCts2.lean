/- Contracts: cents.Show. -/
import Derived.Test.YtfdgjaahmbjnpaaDoorCts
import Derived.Deep.RegionLaw
namespace Go.Proofs.YtfdgjaahmbjnpaaDoor.Cts
open Go Go.RowKit Go.Proofs.YtfdgjaahmbjnpaaDoor.Base Go.Proofs.YtfdgjaahmbjnpaaDoor.Lay Go.Proofs.YtfdgjaahmbjnpaaDoor.Dec
set_option linter.unusedVariables false
set_option linter.unusedSimpArgs false
set_option maxRecDepth 20000
theorem show_bytes (sg : ByteArray) (q r : Int) (hq : 0 ≤ q) (hq1 : q ≤ 10000000000) (hr0 : 0 ≤ r) (hr1 : r < 100) :
    (⟨(Lib.itoa q).toArray⟩ : ByteArray).size ≤ 20 ∧ (⟨(Lib.itoa (100 + r)).toArray⟩ : ByteArray).size ≤ 20 ∧ 1 ≤ (⟨(Lib.itoa (100 + r)).toArray⟩ : ByteArray).size ∧
    ((sg ++ (⟨(Lib.itoa q).toArray⟩ : ByteArray) ++ ⟨#[46]⟩) ++ (⟨(Lib.itoa (100 + r)).toArray⟩ : ByteArray).extract 1 (⟨(Lib.itoa (100 + r)).toArray⟩ : ByteArray).size).data.toList = sg.data.toList ++ showN q.natAbs r.natAbs := by
  have e1 : Lib.itoa (100 + r) = Lib.decDigits (100 + r.natAbs) := by rw [itoa_nat _ (by omega)]; congr 1; omega
  have hz : (⟨(Lib.itoa (100 + r)).toArray⟩ : ByteArray).size = (Lib.decDigits (100 + r.natAbs)).length := by rw [← bytes_len, ← e1]
  have h2 := two_len r.natAbs (by omega)
  rw [List.length_drop] at h2
  have hq2 := dec_len_le q.natAbs 10 (by omega)
  refine ⟨by rw [← bytes_len]; show (Lib.itoa q).length ≤ 20; rw [itoa_nat q hq]; omega, by omega, by omega, ?_⟩
  rw [bytes_append, bytes_append, bytes_append, bytes_extract, hz]
  show (sg.data.toList ++ Lib.itoa q ++ [46]) ++ ((Lib.itoa (100 + r)).take _).drop 1 = _
  rw [e1, List.take_of_length_le (Nat.le_refl _), itoa_nat q hq]
  unfold showN
  simp
set_option maxHeartbeats 2000000 in
theorem Show_any (n : Int) (w : World) (h0 : -1000000000000 ≤ n) (h1 : n ≤ 1000000000000) (hT : Tb w) :
    Calls Tryd.prog 10 #[.int .i64 n] w fun e w' => e = .returned (.tuple #[.string (bs (showL n)), .int .i64 0]) ∧ Below w.heap.size w w' := by
  have HT := Lib.hid hT
  clear hT
  by_cases hn : n < 0
  · have n0 : 0 ≤ -n := by omega
    have n1 : -n ≤ 1000000000000 := by omega
    have EQ := Lib.hid (show IntKind.i64.wrap (-(n.tdiv 100)) = (-n) / 100 by rw [← Int.neg_tdiv, Int.tdiv_eq_ediv_of_nonneg n0, IntKind.wrap_i64]; omega)
    have EA := Lib.hid (show RowKit.wrap64 (100 + -(n.tmod 100)) = 100 + (-n) % 100 by rw [← Int.neg_tmod, Int.tmod_eq_emod_of_nonneg n0]; unfold RowKit.wrap64; omega)
    have HA := Lib.hid (fun W h => itoa_any (100 + (-n) % 100) (by omega) (by omega) W h)
    have HQ := Lib.hid (fun W h => itoa_any ((-n) / 100) (by omega) (by omega) W h)
    obtain ⟨x0, x1, x2, x3⟩ := show_bytes ⟨#[45]⟩ ((-n) / 100) ((-n) % 100) (by omega) (by omega) (by omega) (by omega)
    have hres : (⟨#[45]⟩ : ByteArray).data.toList ++ showN ((-n) / 100).natAbs ((-n) % 100).natAbs = showL n := by
      unfold showL
      rw [if_pos hn, show ((-n) / 100).natAbs = n.natAbs / 100 by omega, show ((-n) % 100).natAbs = n.natAbs % 100 by omega]
    have X3 := Lib.hid (bs_inj (b := bs (showL n)) (x3.trans hres))
    clear x3 hres
    generalize (⟨(Lib.itoa (100 + (-n) % 100)).toArray⟩ : ByteArray) = L at *
    generalize (⟨(Lib.itoa ((-n) / 100)).toArray⟩ : ByteArray) = Q at *
    go_enter Tryd.func10, Tryd.ntmps10
    go_wp2_with (go_at_call 19; refine (within_yes _ _ _ _ h0 h1).mono ?_; rintro e w' ⟨rfl, rfl⟩)
    go_at_call 20
    rw [EA.out]
    refine (HA.out _ HT.out).mono ?_
    rintro e w1 ⟨rfl, hb1⟩
    have HB1 := Lib.hid hb1
    have T1 := Lib.hid (tb_below HT.out hb1)
    clear hb1
    go_wp2_with fail
    have y1 : ¬ 9223372036854775807 < 1 + Q.size := by omega
    have y2 : ¬ 9223372036854775807 < 1 + Q.size + 1 := by omega
    have y3 : ¬ 9223372036854775807 < 1 + Q.size + 1 + (L.size - 1) := by omega
    have y7 : (1 : Int) ≤ (L.size : Int) := by omega
    have y4 : ¬ 9223372036854775807 < Q.size := by omega
    have y5 : ¬ 9223372036854775807 < Q.size + 1 := by omega
    have y6 : ¬ 9223372036854775807 < Q.size + 1 + (L.size - 1) := by omega
    go_region_law (first | (go_simp; go_at_call 20; rw [EQ.out]; refine (HQ.out _ (tb_below T1.out (Below.refl _ _).drew)).mono ?_; rintro e w2 ⟨rfl, hb2⟩; have HB2 := Lib.hid (below_then' HB1.out.drew hb2); clear hb2))
    all_goals
      go_wp2_with fail
      go_ret2
      exact ⟨by rw [X3.out]; rfl, HB2.out⟩
  · have hn0 : 0 ≤ n := by omega
    have EQ := Lib.hid (show IntKind.i64.wrap (n.tdiv 100) = n / 100 by rw [Int.tdiv_eq_ediv_of_nonneg hn0, IntKind.wrap_i64]; omega)
    have HA := Lib.hid (fun W h => itoa_any (100 + n % 100) (by omega) (by omega) W h)
    have HQ := Lib.hid (fun W h => itoa_any (n / 100) (by omega) (by omega) W h)
    obtain ⟨x0, x1, x2, x3⟩ := show_bytes ⟨#[]⟩ (n / 100) (n % 100) (by omega) (by omega) (by omega) (by omega)
    have hres : (⟨#[]⟩ : ByteArray).data.toList ++ showN (n / 100).natAbs (n % 100).natAbs = showL n := by
      unfold showL
      rw [if_neg hn, show (n / 100).natAbs = n.natAbs / 100 by omega, show (n % 100).natAbs = n.natAbs % 100 by omega]
    have X3 := Lib.hid (bs_inj (b := bs (showL n)) (x3.trans hres))
    clear x3 hres
    generalize (⟨(Lib.itoa (100 + n % 100)).toArray⟩ : ByteArray) = L at *
    generalize (⟨(Lib.itoa (n / 100)).toArray⟩ : ByteArray) = Q at *
    go_enter Tryd.func10, Tryd.ntmps10
    go_wp2_with (go_at_call 19; refine (within_yes _ _ _ _ h0 h1).mono ?_; rintro e w' ⟨rfl, rfl⟩)
    go_at_call 20
    refine (HA.out _ HT.out).mono ?_
    rintro e w1 ⟨rfl, hb1⟩
    have HB1 := Lib.hid hb1
    have T1 := Lib.hid (tb_below HT.out hb1)
    clear hb1
    go_wp2_with fail
    have y1 : ¬ 9223372036854775807 < 1 + Q.size := by omega
    have y2 : ¬ 9223372036854775807 < 1 + Q.size + 1 := by omega
    have y3 : ¬ 9223372036854775807 < 1 + Q.size + 1 + (L.size - 1) := by omega
    have y7 : (1 : Int) ≤ (L.size : Int) := by omega
    have y4 : ¬ 9223372036854775807 < Q.size := by omega
    have y5 : ¬ 9223372036854775807 < Q.size + 1 := by omega
    have y6 : ¬ 9223372036854775807 < Q.size + 1 + (L.size - 1) := by omega
    go_region_law (first | (go_simp; go_at_call 20; rw [EQ.out]; refine (HQ.out _ (tb_below T1.out (Below.refl _ _).drew)).mono ?_; rintro e w2 ⟨rfl, hb2⟩; have HB2 := Lib.hid (below_then' HB1.out.drew hb2); clear hb2))
    all_goals
      go_wp2_with fail
      go_ret2
      exact ⟨by rw [X3.out]; rfl, HB2.out⟩
def readT (bl : Bool) (X : List UInt8) : Int × Int :=
  if X.all dgB = false then (0, 3) else if bl = true ∧ capL 1000000000001 X = 0 then (0, 3) else if 1000000000000 < capL 1000000000001 X then (0, 2)
  else (if bl then -(capL 1000000000001 X : Int) else (capL 1000000000001 X : Int), 0)
theorem readT_bad (bl : Bool) (X : ByteArray) (i : Nat) (h : i < X.size) (hn : dgB (X[i]'h) = false) : readT bl X.data.toList = (0, 3) := by
  unfold readT
  rw [if_pos]
  rw [List.all_eq_false]
  exact ⟨X[i], by simp [ByteArray.getElem_eq_getElem_data], by simp [hn]⟩
theorem dg_no {c : UInt8} (h : (c.toNat : Int) < 48 ∨ 57 < (c.toNat : Int)) : dgB c = false := by
  unfold dgB; simp; omega
theorem dg_yes {c : UInt8} (h : 48 ≤ (c.toNat : Int) ∧ (c.toNat : Int) ≤ 57) : dgB c = true := by
  unfold dgB; simp; omega
theorem all_at (X : ByteArray) (h : ∀ i, ∀ h : i < X.size, dgB (X[i]'h) = true) : X.data.toList.all dgB = true := by
  rw [List.all_eq_true]
  intro x hx
  obtain ⟨i, hi, rfl⟩ := List.getElem_of_mem hx
  exact h i (by simpa using hi)
set_option maxHeartbeats 4000000 in
/-- What comes behind the point's checks: digits, one behind the other. -/
theorem Read_any (s : ByteArray) (w : World) (hMx : Mx w) :
    Calls Tryd.prog 11 #[.string s] w fun e w' => e = .returned (.tuple #[.int .i64 (readL s.data.toList).1, .int .i64 (readL s.data.toList).2]) ∧ Below w.heap.size w w' := by
  by_cases h20 : 20 < s.size
  · have e : readL s.data.toList = (0, 1) := by unfold readL; rw [if_pos (by rw [bytes_len]; exact h20)]
    rw [e]
    clear e
    go_enter Tryd.func11, Tryd.ntmps11
    go_wp2
    go_ret2
    exact ⟨rfl, Below.refl _ _⟩
  have hs : s.size ≤ 20 := by omega
  have HP := Lib.hid (fun W => prefix_dash s W)
  have hbl : (bodyL s.data.toList).length ≤ 20 := by
    unfold bodyL
    split
    · rw [List.length_drop, bytes_len]; omega
    · rw [bytes_len]; exact hs
  have HC := Lib.hid (fun W h => cut_dot (bs (bodyL s.data.toList)) W h (by rw [bs_size]; omega))
  rw [bs_list] at HC
  have hcl := cutL_len 46 (bodyL s.data.toList)
  obtain ⟨R, hR⟩ : ∃ R, R = readL s.data.toList := ⟨_, rfl⟩
  have hR2 : R = if (cutL 46 (bodyL s.data.toList)).2.2 = false then (0, 3) else readV (belowB s.data.toList) (cutL 46 (bodyL s.data.toList)).1 (cutL 46 (bodyL s.data.toList)).2.1 := by
    rw [hR]
    unfold readL
    rw [if_neg (by rw [bytes_len]; omega)]
  rw [← hR]
  clear hR
  generalize belowB s.data.toList = bl at *
  generalize bs (bodyL s.data.toList) = B at *
  generalize cutL 46 (bodyL s.data.toList) = C at *
  obtain ⟨wl, tl, ok⟩ := C
  simp only at HC hcl hR2
  have HM := Lib.hid hMx
  clear hMx h20
  by_cases hok : ok = false
  · subst hok
    rw [if_pos rfl] at hR2
    subst hR2
    clear hcl
    generalize bs wl = Wb at *
    generalize bs tl = Tl at *
    go_enter Tryd.func11, Tryd.ntmps11
    go_wp2_with (first | (go_at_call 21; refine (HP.out _).mono ?_; rintro e w' ⟨rfl, rfl⟩) | (go_at_call 22; refine (HC.out _ HM.out).mono ?_; rintro e w1 ⟨rfl, hb1⟩; have HB1 := Lib.hid hb1; clear hb1))
    go_ret2
    exact ⟨rfl, HB1.out⟩
  obtain rfl : ok = true := by simpa using hok
  rw [if_neg (by simp)] at hR2
  clear hok
  unfold readV at hR2
  obtain ⟨Wb, hWb⟩ : ∃ Wb, Wb = bs wl := ⟨_, rfl⟩
  obtain ⟨Tl, hTl⟩ : ∃ Tl, Tl = bs tl := ⟨_, rfl⟩
  have hwl : Wb.data.toList = wl := by rw [hWb, bs_list]
  have htl : Tl.data.toList = tl := by rw [hTl, bs_list]
  rw [← hWb, ← hTl] at HC
  clear hWb hTl
  have zw : Wb.size = wl.length := by rw [← bytes_len, hwl]
  have zt : Tl.size = tl.length := by rw [← bytes_len, htl]
  by_cases hf : wl = [] ∨ tl.length ≠ 2 ∨ (1 < wl.length ∧ wl.head? = some 48)
  · rw [if_pos hf] at hR2
    subst hR2
    by_cases h1 : wl = []
    · have e1 : Wb.toList = [] := by rw [bytes_toList, hwl, h1]
      clear hf zw zt hcl hwl htl h1
      go_enter Tryd.func11, Tryd.ntmps11
      go_wp2_with (first | (go_at_call 21; refine (HP.out _).mono ?_; rintro e w' ⟨rfl, rfl⟩) | (go_at_call 22; refine (HC.out _ HM.out).mono ?_; rintro e w1 ⟨rfl, hb1⟩; have HB1 := Lib.hid hb1; clear hb1))
      go_ret2
      exact ⟨rfl, HB1.out⟩
    have e1 : Wb.toList.isEmpty = false := data_ne Wb (by rw [zw]; exact List.length_pos_iff.2 h1)
    by_cases h2 : tl.length = 2
    · obtain ⟨h3, h4⟩ : 1 < wl.length ∧ wl.head? = some 48 := by
        rcases hf with h | h | h
        · exact absurd h h1
        · exact absurd h2 h
        · exact h
      have z1 : 1 < Wb.size := by omega
      have z0 : 0 < Wb.size := by omega
      have hx : (Wb[0]'z0) = 48 := by
        obtain ⟨x, t, rfl⟩ := List.exists_cons_of_ne_nil h1
        simp at h4
        subst h4
        have h5 : Wb.data.toList[0]? = some 48 := by rw [hwl]; rfl
        rw [List.getElem?_eq_getElem (by rw [bytes_len]; omega)] at h5
        simpa [ByteArray.getElem_eq_getElem_data] using h5
      have z2 : Tl.size = 2 := by omega
      have hxn : (((Wb[0]'z0).toNat : Int) == 48) = true := by rw [hx]; rfl
      clear hf zw zt hcl hwl htl h1 h2 h3 h4 hx
      go_enter Tryd.func11, Tryd.ntmps11
      go_wp2_with (first | (go_at_call 21; refine (HP.out _).mono ?_; rintro e w' ⟨rfl, rfl⟩) | (go_at_call 22; refine (HC.out _ HM.out).mono ?_; rintro e w1 ⟨rfl, hb1⟩; have HB1 := Lib.hid hb1; clear hb1))
      go_ret2
      exact ⟨rfl, HB1.out⟩
    · have z2 : ¬ (Tl.size = 2) := by omega
      clear hf zw zt hcl hwl htl h1 h2
      go_enter Tryd.func11, Tryd.ntmps11
      go_wp2_with (first | (go_at_call 21; refine (HP.out _).mono ?_; rintro e w' ⟨rfl, rfl⟩) | (go_at_call 22; refine (HC.out _ HM.out).mono ?_; rintro e w1 ⟨rfl, hb1⟩; have HB1 := Lib.hid hb1; clear hb1))
      go_ret2
      exact ⟨rfl, HB1.out⟩
  rw [if_neg hf] at hR2
  simp only [not_or, not_and, Decidable.not_not] at hf
  obtain ⟨h1, h2, h3⟩ := hf
  obtain ⟨X, hX⟩ : ∃ X, X = Wb ++ Tl := ⟨_, rfl⟩
  have hXl : X.data.toList = wl ++ tl := by rw [hX, bytes_append, hwl, htl]
  rw [← hXl] at hR2
  have e1 : Wb.toList.isEmpty = false := data_ne Wb (by rw [zw]; exact List.length_pos_iff.2 h1)
  have z0 : 0 < Wb.size := by rw [zw]; exact List.length_pos_iff.2 h1
  have z2 : Tl.size = 2 := by omega
  have zX : X.size ≤ 20 := by rw [← bytes_len, hXl, List.length_append]; omega
  have hgood : Wb.size ≤ 1 ∨ (1 < Wb.size ∧ (((Wb[0]'z0).toNat : Int) == 48) = false) := by
    by_cases h : 1 < Wb.size
    · refine .inr ⟨h, beq_eq_false_iff_ne.mpr (fun e => ?_)⟩
      apply h3 (by omega)
      rw [← hwl, List.head?_eq_getElem?, List.getElem?_eq_getElem (by rw [bytes_len]; exact z0)]
      congr 1
      apply UInt8.toNat_inj.1
      have : (Wb[0]'z0).toNat = 48 := by omega
      simpa [ByteArray.getElem_eq_getElem_data] using this
    · exact .inl (by omega)
  have yS : Wb.size + Tl.size ≤ 9223372036854775807 := by omega
  have HX := Lib.hid hX.symm
  have HR : Hid (R = readT bl X.data.toList) := Lib.hid hR2
  clear hX hR2 hXl h1 h2 h3 zw zt hwl htl hcl
  rcases hgood with hg | ⟨hg, hg2⟩
  all_goals
    go_enter Tryd.func11, Tryd.ntmps11
    go_wp2_with fail
    go_at_call 21
    refine (HP.out _).mono ?_
    rintro e w' ⟨rfl, rfl⟩
    go_wp2_with fail
    go_at_call 22
    refine (HC.out _ HM.out).mono ?_
    rintro e w1 ⟨rfl, hb1⟩
    have HB1 := Lib.hid hb1
    clear hb1
    go_wp2_with fail
    rw [HX.out]
    go_loopw [9] (fun n wr => ∃ pos : Nat, pos ≤ X.size ∧ wr = w1.iter X pos ∧ n = .int .i64 (capL 1000000000001 (X.data.toList.take pos)) ∧ ∀ i, i < pos → ∀ h : i < X.size, dgB (X[i]'h) = true) (fun _ wr => X.size - wr.iterPos w1.heap.size)
    case atStart => exact ⟨0, by omega, rfl, rfl, by intro i hi; omega⟩
    case round =>
      obtain ⟨pos, hp0, rfl, rfl, hall0⟩ := hrel
      have hall := Lib.hid hall0
      clear hall0
      have hcv := capL_val 1000000000001 (X.data.toList.take pos)
      have hc1 : capL 1000000000001 (X.data.toList.take pos) ≤ 1000000000001 := by omega
      clear hcv
      by_cases hp : pos < X.size
      · by_cases ha : (X[pos]'hp).toNat < 128
        · have hnx : ∀ ty, (Instr.next (.pointer (some ⟨w1.heap.size, 0, none⟩)) true ty).run Tryd.prog (w1.iter X pos) = _ := fun ty => run_next_ascii w1 X pos ty hp ha
          have hts := Lib.hid (take_snoc X pos hp)
          go_wp2
          · rename_i hb
            go_ret2
            exact ⟨by rw [HR.out, readT_bad bl X pos hp (dg_no hb)]; rfl, HB1.out.trans ((below_iter w1 X (pos + 1)).mono HB1.out.size)⟩
          · rename_i hb
            have hb' := dg_yes hb
            go_roundw
            case rel =>
              refine ⟨pos + 1, by omega, rfl, congrArg (Value.int .i64) (by rw [hts.out, capL_snoc]; omega), ?_⟩
              intro i hi h
              by_cases hip : i = pos
              · subst hip; exact hb'
              · exact hall.out i (by omega) h
            case measure => simp; omega
          · rename_i hb
            go_ret2
            exact ⟨by rw [HR.out, readT_bad bl X pos hp (dg_no (.inl hb))]; rfl, HB1.out.trans ((below_iter w1 X (pos + 1)).mono HB1.out.size)⟩
        · have hd := decode_high X pos hp (by omega)
          have hi := decode_le X pos
          have hnx : ∀ ty, (Instr.next (.pointer (some ⟨w1.heap.size, 0, none⟩)) true ty).run Tryd.prog (w1.iter X pos) = _ := fun ty => run_next_any w1 X pos ty hp
          generalize Utf8.decode X pos = d at hd hi hnx
          obtain ⟨r, n⟩ := d
          simp only at hd hi hnx
          obtain ⟨hd1, hd2⟩ := hd
          go_wp2
          all_goals
            go_ret2
            exact ⟨by rw [HR.out, readT_bad bl X pos hp (dg_no (.inr (by omega)))]; rfl, HB1.out.trans ((below_iter w1 X _).mono HB1.out.size)⟩
      · obtain rfl : pos = X.size := by omega
        have hnx : ∀ ty, (Instr.next (.pointer (some ⟨w1.heap.size, 0, none⟩)) true ty).run Tryd.prog (w1.iter X X.size) = _ := fun ty => run_next_end w1 X X.size ty hp
        have ht := List.take_of_length_le (l := X.data.toList) (i := X.size) (by simp)
        rw [ht] at hc1 ⊢
        have had := all_at X (fun i h => hall.out i h h)
        have hRR : R = if bl = true ∧ capL 1000000000001 X.data.toList = 0 then (0, 3) else if 1000000000000 < capL 1000000000001 X.data.toList then (0, 2) else (if bl then -(capL 1000000000001 X.data.toList : Int) else (capL 1000000000001 X.data.toList : Int), 0) := by
          rw [HR.out]
          unfold readT
          rw [had, if_neg (by simp)]
        clear had hall ht HR
        generalize capL 1000000000001 X.data.toList = V at *
        have HBE := Lib.hid (HB1.out.trans ((below_iter w1 X X.size).mono HB1.out.size))
        cases bl with
        | true =>
          by_cases hz : V = 0
          · subst hz
            rw [if_pos ⟨rfl, rfl⟩] at hRR
            subst hRR
            go_wp2
            go_ret2
            exact ⟨rfl, HBE.out⟩
          · rw [if_neg (fun h => hz h.2)] at hRR
            have hz2 : ((V : Int) == 0) = false := beq_eq_false_iff_ne.mpr (by omega)
            by_cases hV : 1000000000000 < V
            · rw [if_pos hV] at hRR
              subst hRR
              go_wp2
              go_ret2
              exact ⟨rfl, HBE.out⟩
            · rw [if_neg hV, if_pos rfl] at hRR
              subst hRR
              have hV2 : ¬ (1000000000000 : Int) < V := by omega
              go_wp2
              go_ret2
              exact ⟨rfl, HBE.out⟩
        | false =>
          rw [if_neg (by simp)] at hRR
          by_cases hV : 1000000000000 < V
          · rw [if_pos hV] at hRR
            subst hRR
            go_wp2
            go_ret2
            exact ⟨rfl, HBE.out⟩
          · rw [if_neg hV, if_neg (by simp)] at hRR
            subst hRR
            have hV2 : ¬ (1000000000000 : Int) < V := by omega
            go_wp2
            go_ret2
            exact ⟨rfl, HBE.out⟩
end Go.Proofs.YtfdgjaahmbjnpaaDoor.Cts
