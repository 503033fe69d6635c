/- The walk of NumberSlip. -/
import Derived.Test.YtfdgjaahmbjnpaaDoorRcp3
namespace Go.Proofs.YtfdgjaahmbjnpaaDoor.NumberSlip
open Go Go.RowKit Go.Proofs.YtfdgjaahmbjnpaaDoor.Base Go.Proofs.YtfdgjaahmbjnpaaDoor.Num Go.Proofs.YtfdgjaahmbjnpaaDoor.Chk Go.Proofs.YtfdgjaahmbjnpaaDoor.Rest Go.Proofs.YtfdgjaahmbjnpaaDoor.Seal Go.Proofs.YtfdgjaahmbjnpaaDoor.Lay Go.Proofs.YtfdgjaahmbjnpaaDoor.Rcp Go.Proofs.YtfdgjaahmbjnpaaDoor.RestSwaps
set_option linter.unusedVariables false
set_option linter.unusedSimpArgs false
set_option maxRecDepth 20000
set_option maxHeartbeats 4000000 in
theorem walk (me at_ by_ : Int) (sw : Bool) (w : World) (w1 : (Lit.int .i64 me).wf = true) (w2 : (Lit.int .i64 at_).wf = true) (w3 : (Lit.int .i64 by_).wf = true) (hT : Tb w) :
    Calls Tryd.prog 5 #[.int .i64 me, .int .i64 at_, .int .i64 by_, .bool sw] w fun e w' => e = .returned (.bool true) ∧ Below w.heap.size w w' := by
  obtain ⟨m0, m1⟩ := i64_bound w1
  obtain ⟨a0, a1⟩ := i64_bound w2
  obtain ⟨b0, b1⟩ := i64_bound w3
  clear w1 w2 w3
  have HPK := Lib.hid (fun W => picked_any me 50 W m0 m1 (by omega))
  obtain ⟨f0, f1⟩ := pk_bound me 50 (by decide)
  obtain ⟨m, hm⟩ := Int.eq_ofNat_of_zero_le f0
  rw [hm] at HPK f1
  have hm5 : m < 50 := by omega
  have HN := Lib.hid (fun W (h : Tb W) => Number_any m hm5 W h)
  have hd := numS_dig m hm5
  have hg := numS_good m hm5
  have hz := numS_size m hm5
  have HG := Lib.hid (fun W => Meter_good (numS m) m _ W hm5 (numS_list m) hd hg)
  generalize numS m = S at *
  obtain ⟨p0, p1⟩ := pk_bound at_ S.size (by omega)
  obtain ⟨i, hi0⟩ := Int.eq_ofNat_of_zero_le p0
  have hi : i < S.size := by omega
  obtain ⟨q0, q1⟩ := pk_bound by_ 9 (by decide)
  obtain ⟨e1, e2⟩ := CheckSlip.slip_bad S hd i hi _ q0 q1
  have ez := slip_size S i (slipD (S[i]'hi) (pk by_ 9)).toNat hi
  have dg := allDig_at S hd i hi
  have HSL := Lib.hid (fun W => slipped_any S at_ by_ W (by omega) (by omega) a0 a1 b0 b1 i hi hi0 dg)
  obtain ⟨x0, x1⟩ := pk_bound at_ ((S.size : Int) - (1 : Nat)) (by omega)
  obtain ⟨j, hj0⟩ := Int.eq_ofNat_of_zero_le x0
  have hj : j + 1 < S.size := by omega
  have HSW := Lib.hid (fun W => swapped_any S at_ 1 W (by omega) (by omega) a0 a1 j hj hj0)
  have sz := swapped_size S j 1 (by decide) hj
  have sd := swapped_dig S j 1 (by decide) hj hd
  have HBS := Lib.hid (fun W => Meter_bad (slipped S i (slipD (S[i]'hi) (pk by_ 9)).toNat) W e1 (by omega) (by rw [← hg]; exact e2))
  have hne : ((slipped S i (slipD (S[i]'hi) (pk by_ 9)).toNat).toList == S.toList) = false := by
    apply beq_eq_false_iff_ne.mpr
    intro h
    apply e2
    exact congrArg (fun x => allI x 0) (bytes_ext (by rw [← bytes_toList, ← bytes_toList, h]))
  have hsw : (swapped S j 1).toList = S.toList ∨ (((swapped S j 1).toList == S.toList) = false ∧ allI (swapped S j 1) 0 ≠ 0) := by
    by_cases h : (swapped S j 1).toList = S.toList
    · exact .inl h
    · refine .inr ⟨beq_eq_false_iff_ne.mpr h, fun h2 => h ?_⟩
      exact (CheckSwap.swap_sum S hd j hj (by rw [h2, hg])).symm
  have hs11 : (S.size : Int) = 11 := by omega
  have HM : Hid (IntKind.i64.wrap (m : Int) = (m : Int)) := Lib.hid (by rw [IntKind.wrap_i64]; omega)
  generalize slipped S i (slipD (S[i]'hi) (pk by_ 9)).toNat = T1 at *
  generalize swapped S j 1 = T2 at *
  have HBW : T2.toList = S.toList ∨ ((T2.toList == S.toList) = false ∧ Hid (∀ W, Calls Tryd.prog 13 #[.string T2] W fun e w' => e = .returned (.tuple #[.int .i64 0, .int .i64 8]) ∧ Below W.heap.size W w')) := by
    rcases hsw with h | ⟨h1, h2⟩
    · exact .inl h
    · exact .inr ⟨h1, Lib.hid (fun W => Meter_bad T2 W sd (by omega) h2)⟩
  clear hsw sd sz hj0 hj x0 x1 dg ez e1 e2 q0 q1 hi0 hi p0 p1 hd hg hm f0 HM
  have HT := Lib.hid hT
  clear hT hz
  cases sw with
  | false =>
    clear HBW
    go_enter Tryd.func5, Tryd.ntmps5
    go_wp2_with fail
    go_at_call 9
    refine (HPK.out _).mono ?_
    rintro e w' ⟨rfl, rfl⟩
    go_wp2_with fail
    go_at_call 12
    refine (HN.out _ HT.out).mono ?_
    rintro e w1 ⟨rfl, hb1⟩
    have HB1 := Lib.hid hb1
    clear hb1
    go_wp2_with fail
    go_at_call 13
    refine (HG.out _).mono ?_
    rintro e w2 ⟨rfl, hb2⟩
    have HB2 := Lib.hid (below_then' HB1.out hb2)
    clear hb2
    go_wp2_with fail
    go_at_call 14
    refine (HSL.out _).mono ?_
    rintro e w3 ⟨rfl, hb3⟩
    have HB3 := Lib.hid (below_then' HB2.out hb3)
    clear hb3
    go_wp2_with fail
    go_at_call 13
    refine (HBS.out _).mono ?_
    rintro e w4 ⟨rfl, hb4⟩
    have HB4 := Lib.hid (below_then' HB3.out hb4)
    clear hb4
    go_wp2_with fail
    go_at_call 9
    refine (HPK.out _).mono ?_
    rintro e w' ⟨rfl, rfl⟩
    go_wp2_with fail
    go_ret
    exact ⟨rfl, HB4.out⟩
  | true =>
    have HE : Hid (T2.toList = S.toList ∨ ((T2.toList == S.toList) = false ∧ Hid (∀ W, Calls Tryd.prog 13 #[.string T2] W fun e w' => e = .returned (.tuple #[.int .i64 0, .int .i64 8]) ∧ Below W.heap.size W w'))) := Lib.hid HBW
    clear HBW hne HBS
    go_enter Tryd.func5, Tryd.ntmps5
    go_wp2_with fail
    go_at_call 9
    refine (HPK.out _).mono ?_
    rintro e w' ⟨rfl, rfl⟩
    go_wp2_with fail
    go_at_call 12
    refine (HN.out _ HT.out).mono ?_
    rintro e w1 ⟨rfl, hb1⟩
    have HB1 := Lib.hid hb1
    clear hb1
    go_wp2_with fail
    go_at_call 13
    refine (HG.out _).mono ?_
    rintro e w2 ⟨rfl, hb2⟩
    have HB2 := Lib.hid (below_then' HB1.out hb2)
    clear hb2
    go_wp2_with fail
    go_at_call 14
    refine (HSL.out _).mono ?_
    rintro e w3 ⟨rfl, hb3⟩
    have HB3 := Lib.hid (below_then' HB2.out hb3)
    clear hb3
    go_wp2_with fail
    go_at_call 15
    refine (HSW.out _).mono ?_
    rintro e w4 ⟨rfl, hb4⟩
    have HB4 := Lib.hid (below_then' HB3.out hb4)
    clear hb4
    go_wp2_with fail
    go_at_call 13
    rcases HE.out with hE | ⟨hN, HM2⟩
    · have hT2 : T2 = S := bytes_ext (by rw [← bytes_toList, ← bytes_toList, hE])
      clear HE
      subst hT2
      refine (HG.out _).mono ?_
      rintro e w5 ⟨rfl, hb5⟩
      have HB5 := Lib.hid (below_then' HB4.out hb5)
      clear hb5 hE
      go_wp2_with fail
      go_at_call 9
      refine (HPK.out _).mono ?_
      rintro e w' ⟨rfl, rfl⟩
      go_wp2_with fail
      go_ret
      exact ⟨rfl, HB5.out⟩
    · clear HE
      refine (HM2.out _).mono ?_
      rintro e w5 ⟨rfl, hb5⟩
      have HB5 := Lib.hid (below_then' HB4.out hb5)
      clear hb5
      go_wp2_with fail
      go_at_call 9
      refine (HPK.out _).mono ?_
      rintro e w' ⟨rfl, rfl⟩
      go_wp2_with fail
      go_ret
      exact ⟨rfl, HB5.out⟩
end Go.Proofs.YtfdgjaahmbjnpaaDoor.NumberSlip
