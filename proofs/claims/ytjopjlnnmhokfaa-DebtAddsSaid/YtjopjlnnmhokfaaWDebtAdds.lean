/- The walk of DebtAdds. -/
import Derived.Test.YtjopjlnnmhokfaaTotal
namespace Go.Proofs.Ytjopjlnnmhokfaa.DebtAdds
open Go.RowKit Go.Proofs.Ytjopjlnnmhokfaa.Base Go.Proofs.Ytjopjlnnmhokfaa.Debt
set_option linter.unusedVariables false
set_option linter.unusedSimpArgs false
set_option maxRecDepth 20000

theorem walk (l : List Ow) (L : Option Addr) (d : Nat) (x y : Int) (w : World) (hl : RdE 2 Ow.enc w L l) (hk : ∀ x ∈ l, x.ok) (wx : (Lit.int .i64 x).wf = true) (wy : (Lit.int .i64 y).wf = true) :
    Calls Try.prog 11 #[.slice L l.length d, .int .i64 x, .int .i64 y] w fun e w' => e = .returned (.bool true) ∧ Below w.heap.size w w' := by
  obtain ⟨x0, x1⟩ := i64_bound wx
  obtain ⟨y0, y1⟩ := i64_bound wy
  clear wx wy
  have HL := Lib.hid hl
  have HK := Lib.hid hk
  clear hl hk
  obtain ⟨tend, ht⟩ : ∃ t, t = pk x 100000001 := ⟨_, rfl⟩
  obtain ⟨bp, hb⟩ : ∃ t, t = pk y 10001 := ⟨_, rfl⟩
  have ha := pk_bound x 100000001 (by omega)
  have hbb := pk_bound y 10001 (by omega)
  rw [← ht] at ha
  rw [← hb] at hbb
  obtain ⟨ta0, ta1⟩ := ha
  obtain ⟨bb0, bb1⟩ := hbb
  have EA := Lib.hid ht.symm
  have EB := Lib.hid hb.symm
  clear ht hb
  go_enter Try.func11, Try.ntmps11
  go_wp2_with (first | (go_at_call 30; refine (owing_any l _ L d _ HL.out HK.out (by omega) (by omega)).mono ?_; rintro e w1 ⟨D, q, rfl, ho, hb⟩; have HO := Lib.hid ho; have HB := Lib.hid hb; clear ho hb) | (go_at_call 15; refine (picked_any _ _ _ (by omega) (by omega) (by omega)).mono ?_; rintro e w' ⟨rfl, rfl⟩; first | rw [EA.out] | rw [EB.out]) | fail)
  have dl := owingL_len l 1000000000
  have dk := Lib.hid (owingL_ok l 1000000000 (by omega) (by omega))
  generalize owingL l 1000000000 = ds at *
  have HD := Lib.hid HO.out.read
  go_at_call 31
  refine (recover_any ds _ _ D q _ HD.out dl dk.out ta0 (by omega) bb0 (by omega)).mono ?_
  rintro e w2 ⟨F, r, rfl, ho, hb⟩
  have hm0 : 0 ≤ tend * bp := Int.mul_nonneg ta0 bb0
  obtain ⟨share, hs⟩ : ∃ share, share = tend * bp / 10000 := ⟨_, rfl⟩
  have s0 : 0 ≤ share := by omega
  rw [← hs] at ho ⊢
  have HSH := Lib.hid hs
  clear hs hm0
  obtain ⟨⟨p0, p1⟩, hin, hln⟩ := recL_inv share s0 ds dk.out
  obtain ⟨g1, g2⟩ := rec_sum share s0 ds dk.out
  generalize recL share ds = R at *
  obtain ⟨aft, paid⟩ := R
  simp only at ho hin hln p0 p1 g1 g2 ⊢
  have hs1 := sumD_bd ds dk.out
  have hs2 := sumD_bd aft (fun x h => (hin x h).1)
  have hal : aft.length ≤ 8 := by omega
  have HIN := Lib.hid (fun x h => (hin x h).1 : ∀ x ∈ aft, x.ok)
  have HO2 := Lib.hid ho
  have HB2 := Lib.hid hb
  have HD2 := Lib.hid (HD.out.below hb)
  obtain ⟨sa, hsa⟩ : ∃ sa, sa = sumD ds := ⟨_, rfl⟩
  obtain ⟨sb, hsb⟩ : ∃ sb, sb = sumD aft := ⟨_, rfl⟩
  rw [← hsa] at hs1 g1 g2
  rw [← hsb] at hs2 g1
  have HSA := Lib.hid hsa.symm
  have HSB := Lib.hid hsb.symm
  have t1 : (sa == sb + paid) = true := by simp; omega
  have t2 : sa < share → (paid == sa) = true := fun h => by simp; omega
  have t3 : ¬ sa < share → (paid == share) = true := fun h => by simp; omega
  have p2 : paid ≤ sa := by omega
  obtain ⟨q1, q2⟩ := hs1
  obtain ⟨q3, q4⟩ := hs2
  clear ho hb hin hsa hsb g1 g2
  go_wp2_with (fail)
  go_at_call 32
  refine (Total_any ds D q _ HD2.out dl dk.out).mono ?_
  rw [HSA.out]
  rintro e w3 ⟨rfl, hb⟩
  have HB3 := Lib.hid hb
  have HD3 := Lib.hid (HD2.out.below hb)
  have HF3 := Lib.hid (HO2.out.read.below hb)
  clear hb
  go_wp2_with (fail)
  go_at_call 32
  refine (Total_any aft F r _ HF3.out hal HIN.out).mono ?_
  rw [HSB.out]
  rintro e w4 ⟨rfl, hb⟩
  have HB4 := Lib.hid hb
  have HD4 := Lib.hid (HD3.out.below hb)
  have HF4 := Lib.hid (HF3.out.below hb)
  clear hb
  have HT1 := Lib.hid t1
  have HT2 := Lib.hid t2
  have HT3 := Lib.hid t3
  have q2' : sa ≤ 8000000000 := by omega
  have q4' : sb ≤ 8000000000 := by omega
  clear t1 t2 t3
  go_wp2_with (fail)
  go_at_call 33
  refine (part_any _ _ _ ta0 (by omega) bb0 (by omega)).mono ?_
  rintro e w' ⟨rfl, rfl⟩
  rw [← HSH.out]
  go_wp2_with (fail)
  go_at_call 34
  refine (sumOf_any ds D q _ HD4.out dl dk.out).mono ?_
  rw [HSA.out]
  rintro e w' ⟨rfl, rfl⟩
  go_wp2_with (fail)
  go_at_call 34
  refine (sumOf_any aft F r _ HF4.out hal HIN.out).mono ?_
  rw [HSB.out]
  rintro e w' ⟨rfl, rfl⟩
  have t1 := HT1.out
  have hs1 := HB.out.size
  have hs2 := HB2.out.size
  have hs3 := HB3.out.size
  have HBE := Lib.hid ((below_then HB.out hs1 HB2.out).trans ((HB3.out.mono (by omega)).trans (HB4.out.mono (by omega))))
  by_cases hlt : sa < share
  · have t2 := HT2.out hlt
    go_wp2
    go_ret
    exact ⟨rfl, HBE.out⟩
  · have t2 := HT3.out (by omega)
    go_wp2
    go_ret
    exact ⟨rfl, HBE.out⟩
end Go.Proofs.Ytjopjlnnmhokfaa.DebtAdds
