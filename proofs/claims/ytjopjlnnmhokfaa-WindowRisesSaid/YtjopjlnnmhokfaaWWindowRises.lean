/- The walk of WindowRises. -/
import Derived.Test.YtjopjlnnmhokfaaWinP
namespace Go.Proofs.Ytjopjlnnmhokfaa.WindowRises
open Go.RowKit Go.Proofs.Ytjopjlnnmhokfaa.Base Go.Proofs.Ytjopjlnnmhokfaa.Win
set_option linter.unusedVariables false
set_option linter.unusedSimpArgs false
set_option maxRecDepth 20000
theorem judge_above {h id : Int} {B : Nat} (c : id > h) : judgeI h B id = 0 := by
  unfold judgeI
  rw [if_neg (show ¬ h - id ≥ 64 by omega), if_neg (fun x => by omega)]
theorem judge_top {h : Int} {B : Nat} {had : List Int} (H : InvW h B had) (hm : h ∈ had) : judgeI h B h = 14 := by
  rw [judge_inv H, if_neg (by omega), if_pos hm]
set_option maxHeartbeats 1000000 in
theorem walk (far : List Int) (A : Option Addr) (c : Nat) (w : World) (hr : RdE 1 encI w A far) (hz : ∀ x ∈ far, (Lit.int .i64 x).wf = true) :
    Calls Try.prog 8 #[.slice A far.length c] w fun e w' => e = .returned (.bool true) ∧ Below w.heap.size w w' := by
  have hmx := hr.1
  have HR := Lib.hid hr
  have HZ := Lib.hid hz
  clear hr hz
  go_enter Try.func8, Try.ntmps8
  go_wp2
  go_loopw [4, 5] (fun v i wr => ∃ (k : Nat) (h : Int) (B : Nat) (had : List Int), k ≤ far.length ∧ k ≤ 300 ∧ i = .int .i64 k ∧ v = .int .i64 h ∧ h ≤ 3000 * k ∧ InvW h B had ∧ Below w.heap.size w wr ∧ w.heap.size < wr.heap.size ∧ wr.cell? ⟨w.heap.size, 0, none⟩ = some (.int .i64 h) ∧ wr.cell? ⟨w.heap.size, 1, none⟩ = some (.int .u64 (B : Int)) ∧ wr.frozen? ⟨w.heap.size, 0, none⟩ = false ∧ wr.frozen? ⟨w.heap.size, 1, none⟩ = false) (fun _ i _ => far.length - (intOf i).toNat)
  case atStart =>
    refine ⟨0, 0, 0, [], by omega, by omega, rfl, rfl, by omega, inv_nil, blw_alloc (Below.refl _ _) _, by simp, ?_, ?_, ?_, ?_⟩
    all_goals go_simp
  case round =>
    obtain ⟨k, h, B, had, hk, hk3, rfl, rfl, hh, hinv, hb, hlt0, c0, c1, f0, f1⟩ := hrel
    have HB := Lib.hid hb
    have HI := Lib.hid hinv
    obtain ⟨h0, _⟩ := wmay_bd hinv.may
    clear hb hinv
    by_cases hlt : k < far.length ∧ k < 300
    · obtain ⟨l1, l2⟩ := hlt
      obtain ⟨ad, rfl, hc⟩ := (HR.out.below HB.out).at1 k l1 _ rfl
      obtain ⟨z0, z1⟩ := i64_bound (HZ.out far[k] (List.getElem_mem l1))
      obtain ⟨p0, p1⟩ := pk_bound far[k] 3000 (by omega)
      have HP := Lib.hid (fun w => picked_any far[k] 3000 w z0 z1 (by omega))
      generalize far[k] = x at *
      generalize pk x 3000 = d at *
      obtain ⟨id, hid⟩ : ∃ id, id = h + (1 + d) := ⟨_, rfl⟩
      have hid2 : h + (1 + d) = id := hid.symm
      have i0 : 1 ≤ id := by omega
      have i1 : id ≤ 1048575 := by omega
      have HJ := Lib.hid (judge_above (B := B) (show id > h by omega))
      have hnx := inv_take HI.out id i0 i1 HJ.out
      have eH : takeH h id = id := by unfold takeH; rw [if_pos (by omega)]
      rw [eH] at hnx
      have HT := Lib.hid (fun w => take_yes h B id w HI.out.lt HI.out.may i0 i1 HJ.out)
      rw [eH] at HT
      have HN := Lib.hid hnx
      have hju := fun w => judge_any id (takeB h B id) id w hnx.lt hnx.may i0 i1
      rw [judge_top hnx (by simp)] at hju
      have HJU := Lib.hid hju
      have hid3 : id ≤ 3000 * ((k : Int) + 1) := by omega
      generalize takeB h B id = nb at *
      clear hnx hju eH hid
      go_wp2_with (first | (go_at_call 15; refine (HP.out _).mono ?_; rintro e w' ⟨rfl, rfl⟩) | fail)
      have HID := Lib.hid hid2
      clear hid2
      go_wp2_with (fail)
      go_at_call 24
      refine (HT.out _).mono ?_
      rintro e w1 ⟨rfl, hb1⟩
      obtain ⟨bc, bf⟩ := bcell hb1
      have hz1 := hb1.size
      have HB1 := Lib.hid hb1
      clear hb1
      have lt1 : w.heap.size < w1.heap.size := by omega
      have g0 : w1.cell? ⟨w.heap.size, 0, none⟩ = some (.int .i64 h) := by rw [bc _ _ hlt0]; exact c0
      have g1 : w1.cell? ⟨w.heap.size, 1, none⟩ = some (.int .u64 (B : Int)) := by rw [bc _ _ hlt0]; exact c1
      have e0 : w1.frozen? ⟨w.heap.size, 0, none⟩ = false := by rw [bf _ _ hlt0]; exact f0
      have e1 : w1.frozen? ⟨w.heap.size, 1, none⟩ = false := by rw [bf _ _ hlt0]; exact f1
      clear bc bf
      go_wp2_with (fail)
      go_at_call 25
      refine (HJU.out _).mono ?_
      rintro e w2 ⟨rfl, hb2⟩
      obtain ⟨bc, bf⟩ := bcell hb2
      have hz2 := hb2.size
      simp at hz2
      have HB2 := Lib.hid hb2
      clear hb2
      have lt2 : w.heap.size < w2.heap.size := by omega
      have lt3 : w1.heap.size < w2.heap.size := by omega
      have k0 : w2.cell? ⟨w.heap.size, 0, none⟩ = some (.int .i64 h) := by rw [bc _ _ (by simp; omega)]; go_simp
      have k1 : w2.cell? ⟨w.heap.size, 1, none⟩ = some (.int .u64 (B : Int)) := by rw [bc _ _ (by simp; omega)]; go_simp
      have q0 : w2.frozen? ⟨w.heap.size, 0, none⟩ = false := by rw [bf _ _ (by simp; omega)]; go_simp
      have q1 : w2.frozen? ⟨w.heap.size, 1, none⟩ = false := by rw [bf _ _ (by simp; omega)]; go_simp
      have ng0 : w2.cell? ⟨w1.heap.size, 0, none⟩ = some (.int .i64 id) := by rw [bc _ _ (by simp <;> omega)]; go_simp
      have nf0 : w2.frozen? ⟨w1.heap.size, 0, none⟩ = false := by rw [bf _ _ (by simp <;> omega)]; go_simp
      have ng1 : w2.cell? ⟨w1.heap.size, 1, none⟩ = some (.int .u64 (nb : Int)) := by rw [bc _ _ (by simp <;> omega)]; go_simp
      have nf1 : w2.frozen? ⟨w1.heap.size, 1, none⟩ = false := by rw [bf _ _ (by simp <;> omega)]; go_simp
      clear bc bf c0 c1 f0 f1 g0 g1 e0 e1 hc
      go_wp2
      go_roundw
      case rel =>
        refine ⟨k + 1, id, nb, had ++ [id], by omega, by omega, by go_num, rfl, by omega, HN.out, ?_, by simp; omega, ?_, ?_, ?_, ?_⟩
        · have hW := below_then HB.out HB.out.size (below_then' (blw_alloc HB1.out _) HB2.out)
          repeat (first | with_reducible exact hW | refine Below.setCell ?_ (by first | exact Nat.le_refl _ | exact Nat.le_succ _) _)
        all_goals go_simp
      case measure => simp [intOf]; omega
    · by_cases l1 : k < far.length
      all_goals
        go_wp2
        go_ret
        exact ⟨rfl, HB.out⟩
end Go.Proofs.Ytjopjlnnmhokfaa.WindowRises
