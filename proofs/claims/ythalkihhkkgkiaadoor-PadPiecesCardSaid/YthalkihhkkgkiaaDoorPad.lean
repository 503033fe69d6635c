/- Contracts of package keypad. -/
import Derived.Test.YthalkihhkkgkiaaDoorBase
import Derived.Test.YthalkihhkkgkiaaDoorApp
import Derived.Test.YthalkihhkkgkiaaDoorCs
import Derived.Laws.StructEq
namespace Go.Proofs.YthalkihhkkgkiaaDoor.Pad
open Go.RowKit Go.Proofs.YthalkihhkkgkiaaDoor.Base
set_option linter.unusedVariables false
set_option linter.unusedSimpArgs false
set_option maxRecDepth 20000
def zin (r z : Int) : Prop := z ≤ r ∧ r < z + 10
instance (r z : Int) : Decidable (zin r z) := by unfold zin; infer_instance
/-- The digit that a key is; -1: none. -/
def valI (r : Int) : Int := if zin r 48 then r - 48 else if zin r 1632 then r - 1632 else if zin r 1776 then r - 1776 else if zin r 2406 then r - 2406 else if zin r 2534 then r - 2534 else if zin r 65296 then r - 65296 else -1
theorem valI_bd (r : Int) : -1 ≤ valI r ∧ valI r ≤ 9 := by
  unfold valI zin
  repeat (split; omega)
  omega
theorem zeros_any (w : World) : Calls Tryd.prog 21 #[] w fun e w' => e = .returned (.agg #[.int .i32 48, .int .i32 1632, .int .i32 1776, .int .i32 2406, .int .i32 2534, .int .i32 65296]) ∧ Below w.heap.size w w' := by
  go_enter Tryd.func21, Tryd.ntmps21
  go_wp2_with fail
  refine bodyPost_ret (v := .agg #[.int .i32 48, .int .i32 1632, .int .i32 1776, .int .i32 2406, .int .i32 2534, .int .i32 65296]) (by simp [results, Tryd.results21, go_sem]) rfl ⟨rfl, blw_alloc (Below.refl _ _) _⟩
set_option maxHeartbeats 2000000 in
theorem value_any (r : Int) (w : World) (h0 : -2147483648 ≤ r) (h1 : r ≤ 2147483647) : Calls Tryd.prog 18 #[.int .i32 r] w fun e w' => e = .returned (.int .i64 (valI r)) ∧ Below w.heap.size w w' := by
  obtain ⟨v, hv⟩ : ∃ v, v = valI r := ⟨_, rfl⟩
  rw [← hv]
  have HV := Lib.hid hv
  clear hv
  have x0 : ∀ W, (Instr.index 52 (.agg #[.int .i32 48, .int .i32 1632, .int .i32 1776, .int .i32 2406, .int .i32 2534, .int .i32 65296]) (.int .i64 0)).run Tryd.prog W = .ok (.int .i32 48) W := fun W => by simp [Instr.index, go_sem]
  have x1 : ∀ W, (Instr.index 52 (.agg #[.int .i32 48, .int .i32 1632, .int .i32 1776, .int .i32 2406, .int .i32 2534, .int .i32 65296]) (.int .i64 1)).run Tryd.prog W = .ok (.int .i32 1632) W := fun W => by simp [Instr.index, go_sem]
  have x2 : ∀ W, (Instr.index 52 (.agg #[.int .i32 48, .int .i32 1632, .int .i32 1776, .int .i32 2406, .int .i32 2534, .int .i32 65296]) (.int .i64 2)).run Tryd.prog W = .ok (.int .i32 1776) W := fun W => by simp [Instr.index, go_sem]
  have x3 : ∀ W, (Instr.index 52 (.agg #[.int .i32 48, .int .i32 1632, .int .i32 1776, .int .i32 2406, .int .i32 2534, .int .i32 65296]) (.int .i64 3)).run Tryd.prog W = .ok (.int .i32 2406) W := fun W => by simp [Instr.index, go_sem]
  have x4 : ∀ W, (Instr.index 52 (.agg #[.int .i32 48, .int .i32 1632, .int .i32 1776, .int .i32 2406, .int .i32 2534, .int .i32 65296]) (.int .i64 4)).run Tryd.prog W = .ok (.int .i32 2534) W := fun W => by simp [Instr.index, go_sem]
  have x5 : ∀ W, (Instr.index 52 (.agg #[.int .i32 48, .int .i32 1632, .int .i32 1776, .int .i32 2406, .int .i32 2534, .int .i32 65296]) (.int .i64 5)).run Tryd.prog W = .ok (.int .i32 65296) W := fun W => by simp [Instr.index, go_sem]
  go_enter Tryd.func18, Tryd.ntmps18
  go_wp2_with fail
  go_at_call 21
  refine (zeros_any _).mono ?_
  rintro e w1 ⟨rfl, hb⟩
  have HB := Lib.hid hb
  clear hb
  go_wp2_with fail
  refine wp_loop_rounds 7 ?_
  rw [rounds_succ]
  go_wp2_with (rw [rounds_succ])
  all_goals
    go_ret
    refine ⟨ret_int ?_, HB.out⟩
    have hv := HV.out
    unfold valI zin at hv
    (repeat (first | rw [if_pos (by omega)] at hv | rw [if_neg (by omega)] at hv))
    omega
/-- A pad: its digits; is it bad? -/
structure Pd where
  d : List UInt8
  b : Bool
def isDg (c : UInt8) : Bool := decide (48 ≤ c.toNat) && decide (c.toNat ≤ 57)
def Pd.ok (p : Pd) : Prop := p.d.length ≤ 30 ∧ ∀ c ∈ p.d, isDg c = true
def Pd.vals (p : Pd) : Array Value := #[.string (strOf p.d), .bool p.b]
/-- An entry: its text, its code. -/
structure En where
  t : List UInt8
  c : Int
def En.enc (e : En) : List Value := [.string (strOf e.t), .int .i64 e.c]
def pressP (p : Pd) (r : Int) : Pd × Option En :=
  if r = 32 ∨ r = 45 ∨ r = 160 then (p, none) else if r = 42 then (⟨p.d.dropLast, p.b⟩, none)
  else if r = 35 then (if p.b = true then (⟨[], false⟩, some ⟨[], 3⟩) else if p.d = [] then (⟨[], false⟩, none) else (⟨[], false⟩, some ⟨p.d, 0⟩))
  else if valI r < 0 ∨ p.d.length = 30 then (⟨p.d, true⟩, none) else (⟨p.d ++ [UInt8.ofNat (48 + (valI r).toNat)], p.b⟩, none)
theorem press_ok (p : Pd) (r : Int) (h : p.ok) : (pressP p r).1.ok := by
  obtain ⟨h1, h2⟩ := h
  have hv := valI_bd r
  unfold pressP
  split
  · exact ⟨h1, h2⟩
  · split
    · refine ⟨by simp; omega, fun c hc => h2 c (List.dropLast_subset _ hc)⟩
    · split
      · split
        · exact ⟨by simp, by simp⟩
        · split
          · exact ⟨by simp, by simp⟩
          · exact ⟨by simp, by simp⟩
      · split
        · exact ⟨h1, h2⟩
        · rename_i hn
          refine ⟨by simp; omega, fun c hc => ?_⟩
          simp only [List.mem_append, List.mem_singleton] at hc
          rcases hc with hc | rfl
          · exact h2 c hc
          · unfold isDg
            rw [UInt8.toNat_ofNat', Nat.mod_eq_of_lt (by omega)]
            simp; omega
def chr (d : Nat) : UInt8 := UInt8.ofNat (48 + d)
theorem piece (d : Nat) (h : d < 10) : Utf8.encode (48 + (d : Int)) = strOf [chr d] := by
  match d, h with
  | 0, _ | 1, _ | 2, _ | 3, _ | 4, _ | 5, _ | 6, _ | 7, _ | 8, _ | 9, _ => decide +kernel
theorem conv_rune (k : Nat) (h : k < 10) (W : World) : (convert 21 9 (.int .i32 (48 + (k : Int)))).run Tryd.prog W = .ok (.string (Utf8.encode (48 + (k : Int)))) W := by
  match k, h with
  | 0, _ | 1, _ | 2, _ | 3, _ | 4, _ | 5, _ | 6, _ | 7, _ | 8, _ | 9, _ => simp [go_sem]
theorem cat_piece (d : List UInt8) (k : Nat) (h : k < 10) : strOf d ++ Utf8.encode (48 + (k : Int)) = strOf (d ++ [chr k]) := by
  rw [piece k h]
  apply bytes_ext
  rw [bytes_append, strOf_data, strOf_data, strOf_data]
theorem last_any (d : List UInt8) (w : World) (hl : d.length ≤ 30) (hd : ∀ c ∈ d, isDg c = true) : Calls Tryd.prog 17 #[.string (strOf d)] w fun e w' => (∃ x : Int, e = .returned (.tuple #[.int .i32 x, .int .i64 (if d = [] then 0 else 1)])) ∧ w = w' := by
  by_cases h0 : d = []
  · subst h0
    rw [if_pos rfl]
    have hz : (strOf []).size = 0 := rfl
    generalize strOf [] = s at *
    go_enter Tryd.func17, Tryd.ntmps17
    go_wp2_with fail
    go_ret2
    exact ⟨⟨_, rfl⟩, rfl⟩
  · rw [if_neg h0]
    have hp : 0 < d.length := List.length_pos_iff.2 h0
    have hz := strOf_size d
    have hlt : d.length - 1 < (strOf d).size := by omega
    have hx : ((strOf d)[d.length - 1]'hlt).toNat ≤ 57 := by
      have h1 := bytes_at (strOf d) (d.length - 1) hlt
      rw [strOf_data] at h1
      have h2 := hd _ (List.mem_of_getElem? h1)
      unfold isDg at h2
      simp only [Bool.and_eq_true, decide_eq_true_eq] at h2
      exact h2.2
    have hw : wrap32 (((strOf d)[d.length - 1]'hlt).toNat : Int) = (((strOf d)[d.length - 1]'hlt).toNat : Int) := by
      unfold wrap32
      omega
    generalize strOf d = s at *
    clear hd h0
    generalize d.length = n at *
    go_enter Tryd.func17, Tryd.ntmps17
    go_wp2_with fail
    go_ret2
    exact ⟨⟨_, rfl⟩, rfl⟩
set_option maxHeartbeats 4000000 in
theorem press_any (p : Pd) (r : Int) (w : World) (hp : p.ok) (r0 : -2147483648 ≤ r) (r1 : r ≤ 2147483647) : Calls Tryd.prog 14 #[.agg p.vals, .int .i32 r] w fun e w' =>
    (match (pressP p r).2 with
     | none => e = .returned (.tuple #[.agg (pressP p r).1.vals, .pointer none])
     | some x => ∃ q, e = .returned (.tuple #[.agg (pressP p r).1.vals, .pointer (some ⟨q, 0, none⟩)]) ∧ w.heap.size ≤ q ∧ Cs w' q x.enc) ∧ Below w.heap.size w w' := by
  obtain ⟨h1, h2⟩ := hp
  obtain ⟨d, b⟩ := p
  have HD := Lib.hid h2
  clear h2
  simp only at h1
  by_cases c1 : r = 32 ∨ r = 45 ∨ r = 160
  · have hP : pressP ⟨d, b⟩ r = (⟨d, b⟩, none) := by unfold pressP; rw [if_pos c1]
    rw [hP]
    unfold Pd.vals
    simp only
    clear hP h1
    rcases c1 with rfl | rfl | rfl
    all_goals
      go_enter Tryd.func14, Tryd.ntmps14
      go_wp2_with fail
      refine bodyPost_ret (v := .tuple #[.agg #[.string (strOf d), .bool b], .pointer none]) (by simp [results, Tryd.results14, go_sem]) rfl ⟨rfl, ?_⟩
      exact blw_alloc (blw_alloc (Below.refl _ _) _) _
  by_cases c2 : r = 42
  · subst c2
    have hP : pressP ⟨d, b⟩ 42 = (⟨d.dropLast, b⟩, none) := by unfold pressP; rw [if_neg c1, if_pos rfl]
    rw [hP]
    unfold Pd.vals
    simp only
    have HL := Lib.hid (fun W => last_any d W h1 HD.out)
    have hz := strOf_size d
    have hst : ((strOf d).size : Int) = (d.length : Int) := by rw [hz]
    by_cases h0 : d = []
    · subst h0
      rw [if_pos rfl] at HL
      have hx : (strOf []).extract 0 0 = strOf [] := rfl
      rw [List.dropLast_nil]
      clear hP
      go_enter Tryd.func14, Tryd.ntmps14
      go_wp2_with fail
      go_at_call 17
      refine (HL.out _).mono ?_
      rintro e w1 ⟨⟨x, rfl⟩, rfl⟩
      go_wp2_with fail
      refine bodyPost_ret (v := .tuple #[.agg #[.string ByteArray.empty, .bool b], .pointer none]) (by simp [results, Tryd.results14, go_sem]) rfl ⟨rfl, ?_⟩
      exact blw_alloc (blw_alloc (Below.refl _ _) _) _
    · rw [if_neg h0] at HL
      have hx : (strOf d).extract 0 (d.length - 1) = strOf d.dropLast := by
        apply bytes_ext
        rw [bytes_extract, strOf_data, strOf_data, List.drop_zero, List.dropLast_eq_take]
      have hpos : 0 < d.length := List.length_pos_iff.2 h0
      clear hP h0 HD
      generalize strOf d.dropLast = s1 at *
      generalize strOf d = s at *
      generalize d.length = n at *
      go_enter Tryd.func14, Tryd.ntmps14
      go_wp2_with fail
      go_at_call 17
      refine (HL.out _).mono ?_
      rintro e w1 ⟨⟨x, rfl⟩, rfl⟩
      go_wp2_with fail
      refine bodyPost_ret (v := .tuple #[.agg #[.string s1, .bool b], .pointer none]) (by simp [results, Tryd.results14, go_sem]) rfl ⟨rfl, ?_⟩
      exact blw_alloc (blw_alloc (Below.refl _ _) _) _
  by_cases c3 : r = 35
  · subst c3
    by_cases hb : b = true
    · subst hb
      have hP : pressP ⟨d, true⟩ 35 = (⟨[], false⟩, some ⟨[], 3⟩) := by unfold pressP; rw [if_neg c1, if_neg c2, if_pos rfl, if_pos rfl]
      rw [hP]
      unfold Pd.vals En.enc
      simp only
      clear hP
      generalize strOf d = s at *
      go_enter Tryd.func14, Tryd.ntmps14
      go_wp2_with fail
      refine bodyPost_ret (v := .tuple #[.agg #[.string (strOf []), .bool false], .pointer (some ⟨w.heap.size + 1 + 1, 0, none⟩)]) (by simp [results, Tryd.results14, go_sem, strOf]) rfl ⟨⟨_, rfl, by omega, Cs.new (by simp)⟩, ?_⟩
      exact blw_alloc (blw_alloc (blw_alloc (Below.refl _ _) _) _) _
    · obtain rfl : b = false := by cases b <;> simp_all
      by_cases h0 : d = []
      · subst h0
        have hP : pressP ⟨[], false⟩ 35 = (⟨[], false⟩, none) := by unfold pressP; rw [if_neg c1, if_neg c2, if_pos rfl, if_neg hb, if_pos rfl]
        rw [hP]
        unfold Pd.vals
        simp only
        clear hP
        rw [show strOf [] = ByteArray.empty from rfl]
        have hemp : ByteArray.empty.toList.isEmpty = true := by rw [bytes_toList]; rfl
        go_enter Tryd.func14, Tryd.ntmps14
        go_wp2_with fail
        refine bodyPost_ret (v := .tuple #[.agg #[.string ByteArray.empty, .bool false], .pointer none]) (by simp [results, Tryd.results14, go_sem]; rfl) rfl ⟨rfl, ?_⟩
        exact blw_alloc (blw_alloc (Below.refl _ _) _) _
      · have hP : pressP ⟨d, false⟩ 35 = (⟨[], false⟩, some ⟨d, 0⟩) := by unfold pressP; rw [if_neg c1, if_neg c2, if_pos rfl, if_neg hb, if_neg h0]
        rw [hP]
        unfold Pd.vals En.enc
        simp only
        have hne : ((strOf d).toList.isEmpty) = false := data_ne _ (by rw [strOf_size]; exact List.length_pos_iff.2 h0)
        clear hP h0
        generalize strOf d = s at *
        go_enter Tryd.func14, Tryd.ntmps14
        go_wp2_with fail
        go_region
        go_wp2_with fail
        refine bodyPost_ret (v := .tuple #[.agg #[.string (strOf []), .bool false], .pointer (some ⟨w.heap.size + 1 + 1, 0, none⟩)]) (by simp [results, Tryd.results14, go_sem, strOf]) rfl ⟨⟨_, rfl, by omega, (Cs.new (by simp)).drew⟩, ?_⟩
        exact (blw_alloc (blw_alloc (blw_alloc (Below.refl _ _) _) _) _).drew
  have e1 : (r == 32) = false := by simp; omega
  have e2 : (r == 45) = false := by simp; omega
  have e3 : (r == 160) = false := by simp; omega
  have e4 : (r == 42) = false := by simp; omega
  have e5 : (r == 35) = false := by simp; omega
  have HVL := Lib.hid (fun W => value_any r W r0 r1)
  obtain ⟨v0, v9⟩ := valI_bd r
  have hz := strOf_size d
  have hst : ((strOf d).size : Int) = (d.length : Int) := by rw [hz]
  by_cases c4 : valI r < 0 ∨ d.length = 30
  · have hP : pressP ⟨d, b⟩ r = (⟨d, true⟩, none) := by unfold pressP; rw [if_neg c1, if_neg c2, if_neg c3, if_pos c4]
    rw [hP]
    unfold Pd.vals
    simp only
    have C4 := Lib.hid c4
    clear hP c4 c1 c2 c3
    generalize valI r = v at *
    generalize strOf d = s at *
    generalize d.length = n at *
--D1
    go_enter Tryd.func14, Tryd.ntmps14
    go_wp2_with (fail)
    go_at_call 18
    refine (HVL.out _).mono ?_
    rintro e w1 ⟨rfl, hb⟩
    have hwz1 := hb.size
    try simp at hwz1
    have HBw1 : Hid (Below w.heap.size w w1) := Lib.hid (below_then' (by repeat (first | with_reducible exact Below.refl _ _ | with_reducible refine blw_alloc ?_ _ | with_reducible refine Below.drew ?_ | with_reducible refine blw_step ?_ _ | with_reducible refine Below.setCell (p := ⟨_, _, none⟩) ?_ (by first | exact Nat.le_refl _ | (simp; done) | (simp; omega) | omega) _)) hb)
    have Cpw1 : Hid (Cs w1 (w.heap.size) [.string s, .bool b]) := Lib.hid ((show Cs _ (w.heap.size) [.string s, .bool b] from (by (repeat (first | (with_reducible refine Cs.new ?_; focus (first | rfl | (simp; done) | omega)) | with_reducible refine Cs.alloc ?_ _ | with_reducible refine Cs.drew ?_ | with_reducible refine Cs.drewN ?_ _ | (with_reducible refine Cs.other ?_ ?_ _; focus (first | omega | (simp; omega))) | with_reducible apply Cs.put)) <;> first | rfl | (simp; done))).after hb)
    have Crw1 : Hid (Cs w1 (w.heap.size + 1) [.string ⟨#[]⟩, .bool false]) := Lib.hid ((show Cs _ (w.heap.size + 1) [.string ⟨#[]⟩, .bool false] from (by (repeat (first | (with_reducible refine Cs.new ?_; focus (first | rfl | (simp; done) | omega)) | with_reducible refine Cs.alloc ?_ _ | with_reducible refine Cs.drew ?_ | with_reducible refine Cs.drewN ?_ _ | (with_reducible refine Cs.other ?_ ?_ _; focus (first | omega | (simp; omega))) | with_reducible apply Cs.put)) <;> first | rfl | (simp; done))).after hb)
    clear hb
    have lpw1 := Cpw1.out.1
    have pw1g0 := (Cpw1.out.at 0 rfl).1
    have pw1f0 := (Cpw1.out.at 0 rfl).2
    have pw1g1 := (Cpw1.out.at 1 rfl).1
    have pw1f1 := (Cpw1.out.at 1 rfl).2
    have lrw1 := Crw1.out.1
    have rw1g0 := (Crw1.out.at 0 rfl).1
    have rw1f0 := (Crw1.out.at 0 rfl).2
    have rw1g1 := (Crw1.out.at 1 rfl).1
    have rw1f1 := (Crw1.out.at 1 rfl).2
    have C4' := C4.out
    have n01 : w.heap.size ≠ w.heap.size + 1 := by omega
    have n10 : w.heap.size + 1 ≠ w.heap.size := by omega
    have HB1 : Hid (Below w.heap.size w ((((w1.setCell ⟨w.heap.size, 1, none⟩ (.bool true)).setCell ⟨w.heap.size + 1, 0, none⟩ (.string s)).setCell ⟨w.heap.size + 1, 1, none⟩ (.bool true)))) := Lib.hid (((HBw1.out.setCell (p := ⟨w.heap.size, 1, none⟩) (Nat.le_refl _) _).setCell (p := ⟨w.heap.size + 1, 0, none⟩) (by simp) _).setCell (p := ⟨w.heap.size + 1, 1, none⟩) (by simp) _)
    by_cases hv : v < 0
    · clear C4'
      go_wp2_with fail
      refine bodyPost_ret (v := .tuple #[.agg #[.string s, .bool true], .pointer none]) (by simp [results, Tryd.results14, go_sem, rw1g0, rw1g1, rw1f0, rw1f1]) rfl ⟨rfl, HB1.out⟩
    · obtain rfl : n = 30 := by omega
      clear C4'
      go_wp2_with fail
      refine bodyPost_ret (v := .tuple #[.agg #[.string s, .bool true], .pointer none]) (by simp [results, Tryd.results14, go_sem, rw1g0, rw1g1, rw1f0, rw1f1]) rfl ⟨rfl, HB1.out⟩
  · have hP : pressP ⟨d, b⟩ r = (⟨d ++ [UInt8.ofNat (48 + (valI r).toNat)], b⟩, none) := by unfold pressP; rw [if_neg c1, if_neg c2, if_neg c3, if_neg c4]
    rw [hP]
    unfold Pd.vals
    simp only
    have hv0 : 0 ≤ valI r := by omega
    have hn30 : d.length < 30 := by omega
    clear hP c4 c1 c2 c3
    generalize valI r = v at *
    obtain ⟨k, rfl⟩ := Int.eq_ofNat_of_zero_le hv0
    rw [show UInt8.ofNat (48 + ((k : Int)).toNat) = chr k from rfl]
    obtain ⟨t, ht⟩ : ∃ t, t = strOf (d ++ [chr k]) := ⟨_, rfl⟩
    rw [← ht]
    obtain ⟨u, hcv, hu, hus⟩ : ∃ u, (∀ W, (convert 21 9 (.int .i32 (48 + (k : Int)))).run Tryd.prog W = .ok (.string u) W) ∧ strOf d ++ u = t ∧ u.size = 1 := ⟨_, conv_rune k (by omega), by rw [ht]; exact cat_piece d k (by omega), by rw [piece k (by omega), strOf_size]; rfl⟩
    clear ht
    have HK := Lib.hid (show k < 10 by omega)
    have hk10 : ((k : Nat) : Int) < 10 := by omega
    have hne30 : ((d.length : Int) == 30) = false := beq_eq_false_iff_ne.mpr (by omega)
    obtain ⟨s, hs⟩ : ∃ s, s = strOf d := ⟨_, rfl⟩
    rw [← hs] at hz hst hu ⊢
    clear hs
    generalize d.length = n at *
    go_enter Tryd.func14, Tryd.ntmps14
    go_wp2_with (fail)
    go_at_call 18
    refine (HVL.out _).mono ?_
    rintro e w1 ⟨rfl, hb⟩
    have hwz1 := hb.size
    try simp at hwz1
    have HBw1 : Hid (Below w.heap.size w w1) := Lib.hid (below_then' (by repeat (first | with_reducible exact Below.refl _ _ | with_reducible refine blw_alloc ?_ _ | with_reducible refine Below.drew ?_ | with_reducible refine blw_step ?_ _ | with_reducible refine Below.setCell (p := ⟨_, _, none⟩) ?_ (by first | exact Nat.le_refl _ | (simp; done) | (simp; omega) | omega) _)) hb)
    have Cpw1 : Hid (Cs w1 (w.heap.size) [.string s, .bool b]) := Lib.hid ((show Cs _ (w.heap.size) [.string s, .bool b] from (by (repeat (first | (with_reducible refine Cs.new ?_; focus (first | rfl | (simp; done) | omega)) | with_reducible refine Cs.alloc ?_ _ | with_reducible refine Cs.drew ?_ | with_reducible refine Cs.drewN ?_ _ | (with_reducible refine Cs.other ?_ ?_ _; focus (first | omega | (simp; omega))) | with_reducible apply Cs.put)) <;> first | rfl | (simp; done))).after hb)
    have Crw1 : Hid (Cs w1 (w.heap.size + 1) [.string ⟨#[]⟩, .bool false]) := Lib.hid ((show Cs _ (w.heap.size + 1) [.string ⟨#[]⟩, .bool false] from (by (repeat (first | (with_reducible refine Cs.new ?_; focus (first | rfl | (simp; done) | omega)) | with_reducible refine Cs.alloc ?_ _ | with_reducible refine Cs.drew ?_ | with_reducible refine Cs.drewN ?_ _ | (with_reducible refine Cs.other ?_ ?_ _; focus (first | omega | (simp; omega))) | with_reducible apply Cs.put)) <;> first | rfl | (simp; done))).after hb)
    clear hb
    have lpw1 := Cpw1.out.1
    have pw1g0 := (Cpw1.out.at 0 rfl).1
    have pw1f0 := (Cpw1.out.at 0 rfl).2
    have pw1g1 := (Cpw1.out.at 1 rfl).1
    have pw1f1 := (Cpw1.out.at 1 rfl).2
    have lrw1 := Crw1.out.1
    have rw1g0 := (Crw1.out.at 0 rfl).1
    have rw1f0 := (Crw1.out.at 0 rfl).2
    have rw1g1 := (Crw1.out.at 1 rfl).1
    have rw1f1 := (Crw1.out.at 1 rfl).2
    go_wp2_with fail
    refine bodyPost_ret (v := .tuple #[.agg #[.string t, .bool b], .pointer none]) (by simp [results, Tryd.results14, go_sem, rw1g0, rw1g1, rw1f0, rw1f1]) rfl ⟨rfl, ?_⟩
    exact ((HBw1.out.setCell (p := ⟨w.heap.size, 0, none⟩) (Nat.le_refl _) _).setCell (p := ⟨w.heap.size + 1, 0, none⟩) (by simp) _).setCell (p := ⟨w.heap.size + 1, 1, none⟩) (by simp) _
end Go.Proofs.YthalkihhkkgkiaaDoor.Pad
