/- The walk of DebtSteps. -/
import Derived.Test.YtdomipmfghnfaaaAge
namespace Go.Proofs.Ytdomipmfghnfaaa.DebtSteps
open Go.RowKit Go.Proofs.Ytdomipmfghnfaaa.Base Go.Proofs.Ytdomipmfghnfaaa.Debt
set_option linter.unusedVariables false
set_option linter.unusedSimpArgs false

theorem ageL_ok (m : Nat) (xs : List Db) (h : ∀ x ∈ xs, x.ok) : ∀ x ∈ ageL m xs, x.ok := by
  intro x hx
  obtain ⟨y, hy, rfl⟩ := List.mem_map.1 hx
  exact ageN_ok m y (h y hy)
theorem ageL_len (m : Nat) (xs : List Db) : (ageL m xs).length = xs.length := by unfold ageL; simp
theorem ageL_add (k n : Nat) (xs : List Db) : ageL n (ageL k xs) = ageL (k + n) xs := by
  unfold ageL
  rw [List.map_map]
  exact List.map_congr_left fun x _ => (ageN_add x k n).symm
theorem walk (l : List Ow) (L : Option Addr) (d : Nat) (x y : Int) (w : World) (hl : RdE 2 Ow.enc w L l) (hk : ∀ x ∈ l, x.ok) (wx : (Lit.int .i64 x).wf = true) (wy : (Lit.int .i64 y).wf = true) :
    Calls Try.prog 11 #[.slice L l.length d, .int .i64 x, .int .i64 y] w fun e w' => e = .returned (.bool true) ∧ Below w.heap.size w w' := by
  obtain ⟨x0, x1⟩ := i64_bound wx
  obtain ⟨y0, y1⟩ := i64_bound wy
  clear wx wy
  have HL := Lib.hid hl
  have HK := Lib.hid hk
  clear hl hk
  have ha := pk_bound x 1201 (by omega)
  have hb := pk_bound y 1200 (by omega)
  obtain ⟨a, ea⟩ : ∃ a : Nat, pk x 1201 = (a : Int) := ⟨(pk x 1201).toNat, by omega⟩
  obtain ⟨b, eb⟩ : ∃ b : Nat, pk y 1200 = (b : Int) := ⟨(pk y 1200).toNat, by omega⟩
  have ha2 : a ≤ 1200 := by omega
  have hb2 : b ≤ 1199 := by omega
  have EA := Lib.hid ea
  have EB := Lib.hid eb
  have hb1 := Lib.hid (show (b : Int) + 1 = ((b + 1 : Nat) : Int) by omega)
  have hab1 := Lib.hid (show (a : Int) + ((b : Int) + 1) = ((a + (b + 1) : Nat) : Int) by omega)
  clear ea eb ha hb
  go_enter Try.func11, Try.ntmps11
  go_wp2_with (first | (go_at_call 28; refine (owing_any l _ L d _ HL.out HK.out (by omega) (by omega)).mono ?_; rintro e w1 ⟨D, q, rfl, ho, hb⟩; have HO := Lib.hid ho; have HB := Lib.hid hb; clear ho hb) | (go_at_call 15; refine (picked_any _ _ _ (by omega) (by omega) (by omega)).mono ?_; rintro e w' ⟨rfl, rfl⟩; first | rw [EA.out] | rw [EB.out]) | fail)
  have dl := owingL_len l 1000000000
  have dk := Lib.hid (owingL_ok l 1000000000 (by omega) (by omega))
  generalize owingL l 1000000000 = ds at *
  have HD := Lib.hid HO.out.read
  have HN := Lib.hid HO.out.nil
  go_at_call 29
  refine (age_any ds a _ D q _ HD.out dl dk.out HN.out rfl (by omega)).mono ?_
  rintro e w2 ⟨F, r, rfl, ho, hb⟩
  have fl := ageL_len a ds
  have fk := Lib.hid (ageL_ok a ds dk.out)
  have hadd := ageL_add a (b + 1) ds
  generalize ageL a ds = f1 at *
  have HO2 := Lib.hid ho
  have HB2 := Lib.hid hb
  have HD2 := Lib.hid (HD.out.below hb)
  have HADD := Lib.hid hadd
  have hf8 : f1.length ≤ 8 := by omega
  have HFL := Lib.hid fl
  clear ho hb hadd fl
  go_wp2_with (fail)
  go_at_call 29
  refine (age_any f1 (b + 1) _ F r _ HO2.out.read hf8 fk.out HO2.out.nil hb1.out (by omega)).mono ?_
  rintro e w3 ⟨G, s, rfl, ho, hb⟩
  rw [HADD.out] at ho ⊢
  have HO3 := Lib.hid ho
  have HB3 := Lib.hid hb
  have HD3 := Lib.hid (HD2.out.below hb)
  clear ho hb
  go_wp2_with (fail)
  go_at_call 29
  refine (age_any ds (a + (b + 1)) _ D q _ HD3.out dl dk.out HN.out hab1.out (by omega)).mono ?_
  rintro e w4 ⟨J, u, rfl, ho, hb⟩
  have jl := ageL_len (a + (b + 1)) ds
  have jat := Lib.hid (show ∀ i (h : i < ds.length), (ageL (a + (b + 1)) ds)[i]? = some (ageN (a + (b + 1)) ds[i]) by intro i h; unfold ageL; simp [h])
  generalize ageL (a + (b + 1)) ds = al at *
  have HO4 := Lib.hid ho
  have HB4 := Lib.hid hb
  have HG4 := Lib.hid (HO3.out.read.below hb)
  have HD4 := Lib.hid (HD3.out.below hb)
  have e1 : (al.length != ds.length) = false := by simp [jl]
  have e2 : ((al.length : Int) != (ds.length : Int)) = false := by simp [jl]
  have HJ := Lib.hid jl
  have hs1 := HB.out.size
  have hs2 := HB2.out.size
  have hs3 := HB3.out.size
  have HB5 := Lib.hid ((below_then HB.out hs1 HB2.out).trans ((HB3.out.mono (by omega)).trans (HB4.out.mono (by omega))))
  have hs4 := HB4.out.size
  clear ho hb jl
  go_wp2_with (go_at_call 30; refine (same_dbs al al G J s u _ HG4.out HO4.out.read rfl).mono ?_; rintro e w5 ⟨rfl, n5, hw5⟩; have HW5 := Lib.hid hw5; clear hw5)
  have HB6 := Lib.hid (show Below w4.heap.size w4 w5 by rw [HW5.out]; exact blw_drewN _ _ _)
  go_loopw [16] (fun i wr => ∃ k : Nat, k ≤ ds.length ∧ i = .int .i64 k ∧ Below w4.heap.size w4 wr) (fun i _ => ds.length - (intOf i).toNat)
  case atStart => exact ⟨0, by omega, rfl, HB6.out⟩
  case round =>
    obtain ⟨k, hk, rfl, hb⟩ := hrel
    have HBk := Lib.hid hb
    clear hb
    by_cases hlt : k < ds.length
    · have hla : k < al.length := by have := HJ.out; omega
      obtain ⟨d1, hde, hc0, hc1⟩ := (HD4.out.below HBk.out).at2 k hlt _ _ rfl
      subst hde
      obtain ⟨j1, hje, hc2, hc3⟩ := (HO4.out.read.below HBk.out).at2 k hla _ _ rfl
      subst hje
      have hki : (k : Int) < (ds.length : Int) := by omega
      have hki2 : (k : Int) < (al.length : Int) := by omega
      have hk0 : (0 : Int) ≤ (k : Int) := by omega
      have hae : al[k] = ageN (a + (b + 1)) ds[k] := by
        have := jat.out k hlt
        rw [List.getElem?_eq_getElem hla] at this
        simpa using this
      have hok := dk.out ds[k] (List.getElem_mem hlt)
      have hle := ageN_le (a + (b + 1)) ds[k] hok
      have hbp := ageN_bp (a + (b + 1)) ds[k]
      have hko := ageN_ok (a + (b + 1)) ds[k] hok
      rw [← hae] at hle hbp hko
      have t0 : decide (al[k].a < ds[k].a) = false := decide_eq_false (by omega)
      have t1 : decide (al[k].a > 1000000000) = false := decide_eq_false (by have := hko.1.2; omega)
      have t1' : decide (1000000000 < al[k].a) = false := decide_eq_false (by have := hko.1.2; omega)
      have t2 : (al[k].b != ds[k].b) = false := by simp [hbp]
      clear hae hok hle hbp hko
      go_wp2
      go_quiet (fail)
      go_wp2
      go_roundw
      case rel => exact ⟨k + 1, by omega, by go_num, blw_step HBk.out _⟩
      case measure => simp [intOf]; omega
    · obtain rfl : k = ds.length := by omega
      go_wp2
      go_ret
      exact ⟨rfl, HB5.out.trans (HBk.out.mono (by omega))⟩
end Go.Proofs.Ytdomipmfghnfaaa.DebtSteps
