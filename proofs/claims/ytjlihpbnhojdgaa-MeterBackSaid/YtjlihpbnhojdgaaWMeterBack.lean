/- The walk of MeterBack. -/
import Derived.Test.YtjlihpbnhojdgaaMetR
namespace Go.Proofs.Ytjlihpbnhojdgaa.MeterBack
open Go.RowKit Go.Proofs.Ytjlihpbnhojdgaa.Base Go.Proofs.Ytjlihpbnhojdgaa.Win Go.Proofs.Ytjlihpbnhojdgaa.Cell Go.Proofs.Ytjlihpbnhojdgaa.Met
set_option linter.unusedVariables false
set_option linter.unusedSimpArgs false
set_option maxRecDepth 20000
set_option maxHeartbeats 2000000 in
theorem walk (m : Mt) (cs : List Value) (w : World) (hx : cs = m.vals.toList ∧ m.ok) :
    Calls Try.prog 4 #[.agg cs.toArray] w fun e w' => e = .returned (.bool true) ∧ Below w.heap.size w w' := by
  obtain ⟨rfl, ok⟩ := hx
  show Calls Try.prog 4 #[.agg m.vals] w _
  cases hm : mmay m
  · have HW := Lib.hid (fun w => words_no m w ok hm)
    obtain ⟨me, rev, cr, wh, wb, bad, lock⟩ := m
    unfold Mt.vals at *
    simp only at *
    clear hm ok
    go_enter Try.func4, Try.ntmps4
    go_wp2_with (fail)
    go_at_call 18
    refine (HW.out _).mono ?_
    rintro e w1 ⟨rfl, hb⟩
    have HB := Lib.hid hb
    clear hb
    go_wp2
    go_ret
    exact ⟨rfl, below_then' (blw_alloc (Below.refl _ _) _) HB.out⟩
  · have HW := Lib.hid (fun w => words_yes m w ok hm)
    have hrw := read_words m ok hm
    have HR := Lib.hid (show readR (u32 m.cr.toNat).toNat (u32 (flagsN m)).toNat (u32 m.wh.toNat).toNat (u32 (m.wb % 4294967296)).toNat (u32 (m.wb / 4294967296)).toNat = (m, 0) by unfold readR; rw [hrw, hm]; rfl)
    have hl5 : (wordsL m).length = 5 := rfl
    have HRd := Lib.hid (fun (w : World) (A : Option Addr) (c : Nat) (h : RdE 1 encW w A (wordsL m)) => read_any _ _ _ _ _ A c w h)
    rw [HR.out] at *
    have HL5 := Lib.hid hl5
    clear hl5
    have HWL := Lib.hid (fun (w : World) (A : Option Addr) (c : Nat) (B : Nat) (h : OwW B w A c (wordsL m)) => OwW.read h)
    generalize wordsL m = L at *
    obtain ⟨me, rev, cr, wh, wb, bad, lock⟩ := m
    unfold Mt.vals at *
    simp only at *
    clear hm ok hrw HR
    go_enter Try.func4, Try.ntmps4
    go_wp2_with (fail)
    go_at_call 18
    refine (HW.out _).mono ?_
    rintro e w1 ⟨A, c, rfl, ho, hb⟩
    obtain ⟨bc, bf⟩ := bcell hb
    have hz1 := hb.size
    simp at hz1
    have HB := Lib.hid (below_then' (blw_alloc (Below.refl _ _) _) hb)
    have HRE := Lib.hid (HWL.out _ _ _ _ ho)
    have ag0 : w1.cell? ⟨w.heap.size, 0, none⟩ = some (.int .i64 me) := by rw [bc _ _ (by simp <;> omega)]; go_simp
    have ag1 : w1.cell? ⟨w.heap.size, 1, none⟩ = some (.int .i64 rev) := by rw [bc _ _ (by simp <;> omega)]; go_simp
    have ag2 : w1.cell? ⟨w.heap.size, 2, none⟩ = some (.int .i64 cr) := by rw [bc _ _ (by simp <;> omega)]; go_simp
    have ag3 : w1.cell? ⟨w.heap.size, 3, none⟩ = some (.int .i64 wh) := by rw [bc _ _ (by simp <;> omega)]; go_simp
    have ag4 : w1.cell? ⟨w.heap.size, 4, none⟩ = some (.int .u64 (wb : Int)) := by rw [bc _ _ (by simp <;> omega)]; go_simp
    have ag5 : w1.cell? ⟨w.heap.size, 5, none⟩ = some (.int .i64 bad) := by rw [bc _ _ (by simp <;> omega)]; go_simp
    have ag6 : w1.cell? ⟨w.heap.size, 6, none⟩ = some (.int .i64 lock) := by rw [bc _ _ (by simp <;> omega)]; go_simp
    clear hb ho bc bf
    go_wp2_with (fail)
    go_at_call 19
    rw [HL5.out]
    refine (HRd.out _ _ _ HRE.out).mono ?_
    rintro e w2 ⟨rfl, hb⟩
    obtain ⟨bc, bf⟩ := bcell hb
    have HB2 := Lib.hid (below_then' HB.out hb)
    have hb0 : w.heap.size < w1.heap.size := by omega
    have bg0 := (bc w.heap.size 0 hb0).trans ag0
    have bg1 := (bc w.heap.size 1 hb0).trans ag1
    have bg2 := (bc w.heap.size 2 hb0).trans ag2
    have bg3 := (bc w.heap.size 3 hb0).trans ag3
    have bg4 := (bc w.heap.size 4 hb0).trans ag4
    have bg5 := (bc w.heap.size 5 hb0).trans ag5
    have bg6 := (bc w.heap.size 6 hb0).trans ag6
    have hz2 := hb.size
    have hb1 : w.heap.size < w2.heap.size := by omega
    clear hb bc bf ag0 ag1 ag2 ag3 ag4 ag5 ag6
    go_wp2
    go_ret
    exact ⟨by first | rfl | exact ret_bool (by simp), blw_alloc HB2.out _⟩
end Go.Proofs.Ytjlihpbnhojdgaa.MeterBack
