/- The walk of WindowOnce. -/
import Derived.Test.YtjopjlnnmhokfaaWinP
namespace Go.Proofs.Ytjopjlnnmhokfaa.WindowOnce
open Go.RowKit Go.Proofs.Ytjopjlnnmhokfaa.Base Go.Proofs.Ytjopjlnnmhokfaa.Win
set_option linter.unusedVariables false
set_option linter.unusedSimpArgs false
set_option maxRecDepth 20000
theorem info_int : (Try.prog.info? 3).map (fun i => (i.zero, i.size, i.bytes)) = some (some (.int .i64 0), 1, 8) := by kernel_rfl
theorem ownsRow_below {B : Nat} {e : TypeId} {k : Nat} {v : Value} {n : Nat} {xs : List Value} {w w' : World} (h : w.ownsRow B e k v n xs) (hb : Below w.heap.size w w') : w'.ownsRow B e k v n xs :=
  h.kept (row := none) ⟨hb.os, hb.tape, hb.output, hb.size, fun j hj _ => hb.block j hj⟩ (by cases hv : v.ownBlock <;> simp)
def wantI (l : List Int) (id : Int) : Int := if id ∈ l then 14 else 0
set_option maxHeartbeats 1000000 in
theorem walk (ids : List Int) (A : Option Addr) (c : Nat) (w : World) (hr : RdE 1 encI w A ids) (hz : ∀ x ∈ ids, (Lit.int .i64 x).wf = true) :
    Calls Try.prog 7 #[.slice A ids.length c] w fun e w' => e = .returned (.bool true) ∧ Below w.heap.size w w' := by
  have hmx := hr.1
  have HR := Lib.hid hr
  have HZ := Lib.hid hz
  clear hr hz
  go_enter Try.func7, Try.ntmps7
  go_wp2
  go_loopw [4, 5, 6] (fun v hi i wr => ∃ (k : Nat) (h : Int) (B : Nat) (had : List Int), k ≤ ids.length ∧ k ≤ 300 ∧ had.length ≤ k ∧ i = .int .i64 k ∧ hi = .int .i64 h ∧ h ≤ 300 ∧ InvW h B had ∧ wr.ownsRow (w.heap.size + 1) 3 1 v had.length (had.flatMap encI) ∧ Below w.heap.size w wr ∧ w.heap.size < wr.heap.size ∧ wr.cell? ⟨w.heap.size, 0, none⟩ = some (.int .i64 h) ∧ wr.cell? ⟨w.heap.size, 1, none⟩ = some (.int .u64 (B : Int)) ∧ wr.frozen? ⟨w.heap.size, 0, none⟩ = false ∧ wr.frozen? ⟨w.heap.size, 1, none⟩ = false) (fun _ _ i _ => ids.length - (intOf i).toNat)
  case atStart =>
    refine ⟨0, 0, 0, [], by omega, by omega, by simp, rfl, rfl, by omega, inv_nil, World.ownsRow_nil _ _ _ _, blw_alloc (Below.refl _ _) _, by simp, ?_, ?_, ?_, ?_⟩
    all_goals go_simp
  case round =>
    obtain ⟨k, h, B, had, hk, hk3, hhl, rfl, rfl, hh, hinv, hown, hb, hlt0, c0, c1, f0, f1⟩ := hrel
    have HB := Lib.hid hb
    have HI := Lib.hid hinv
    have HO := Lib.hid hown
    obtain ⟨h0, _⟩ := wmay_bd hinv.may
    clear hb hinv hown
    by_cases hlt : k < ids.length ∧ k < 300
    · obtain ⟨l1, l2⟩ := hlt
      obtain ⟨ad, rfl, hc⟩ := (HR.out.below HB.out).at1 k l1 _ rfl
      obtain ⟨z0, z1⟩ := i64_bound (HZ.out ids[k] (List.getElem_mem l1))
      obtain ⟨p0, p1⟩ := pk_bound ids[k] 300 (by omega)
      have HP := Lib.hid (fun w => picked_any ids[k] 300 w z0 z1 (by omega))
      generalize ids[k] = x at *
      generalize pk x 300 = d at *
      obtain ⟨id, hid⟩ : ∃ id, id = 1 + d := ⟨_, rfl⟩
      have i0 : 1 ≤ id := by omega
      have i1 : id ≤ 300 := by omega
      have hid2 : 1 + d = id := hid.symm
      clear hid
      obtain ⟨A1, c1', rfl, hrd⟩ := own_read (enc := encI) (fun _ => rfl) (by decide) HO.out
      have HRD := Lib.hid hrd
      clear hrd
      go_wp2_with (first | (go_at_call 15; refine (HP.out _).mono ?_; rintro e w' ⟨rfl, rfl⟩) | fail)
      have HID := Lib.hid hid2
      clear hid2 hc
      obtain ⟨wo, hwo⟩ : ∃ wo : World, wo = wr := ⟨_, rfl⟩
      go_loop [8, 9] (fun wv j => ∃ q : Nat, q ≤ had.length ∧ j = .int .i64 q ∧ wv = .int .i64 (wantI (had.take q) id)) (fun _ j => had.length - (intOf j).toNat)
      case atStart => exact ⟨0, by omega, rfl, rfl⟩
      case round =>
        obtain ⟨q, hq, rfl, rfl⟩ := hrel
        by_cases hlq : q < had.length
        · obtain ⟨bd, rfl, hd⟩ := HRD.out.at1 q hlq _ rfl
          have hst : wantI (had.take (q + 1)) id = if had[q] = id then 14 else wantI (had.take q) id := by
            unfold wantI
            rw [List.take_succ_eq_append_getElem hlq]
            by_cases a : had[q] = id
            · rw [if_pos a, if_pos (by simp [a])]
            · rw [if_neg a]
              have : id ∈ had.take q ++ [had[q]] ↔ id ∈ had.take q := by
                simp only [List.mem_append, List.mem_singleton]
                exact ⟨fun h => h.resolve_right (fun e => a e.symm), .inl⟩
              by_cases b : id ∈ had.take q
              · rw [if_pos b, if_pos (this.2 b)]
              · rw [if_neg b, if_neg (fun x => b (this.1 x))]
          have HST := Lib.hid hst
          clear hst
          by_cases a : had[q] = id
          · have a' : (had[q] == id) = true := beq_iff_eq.mpr a
            have HA := Lib.hid a
            clear a
            go_wp2
            go_round
            case rel => exact ⟨q + 1, by omega, by go_num, by rw [HST.out, if_pos HA.out]⟩
            case measure => simp [intOf]; omega
          · have a' : (had[q] == id) = false := beq_eq_false_iff_ne.mpr a
            have HA := Lib.hid a
            clear a
            go_wp2
            go_round
            case rel => exact ⟨q + 1, by omega, by go_num, by rw [HST.out, if_neg HA.out]⟩
            case measure => simp [intOf]; omega
        · obtain rfl : q = had.length := by omega
          rw [List.take_of_length_le (Nat.le_refl _)]
          have hj := judge_inv HI.out id
          have HJ := Lib.hid hj
          clear hj
          obtain ⟨want, hw⟩ : ∃ want, want = judgeI h B id := ⟨_, rfl⟩
          by_cases j13 : id ≤ h - 64
          · have hw13 : judgeI h B id = 13 := by rw [HJ.out, if_pos j13]
            have hne : judgeI h B id ≠ 0 := by rw [hw13]; decide
            have ht := fun w => take_no h B id w HI.out.lt HI.out.may i0 (by omega) hne
            rw [hw13] at ht
            have HT := Lib.hid ht
            clear ht hne hw13 hw
            go_wp2_with (fail)
            go_at_call 24
            refine (HT.out _).mono ?_
            rintro e w1 ⟨rfl, hb1⟩
            obtain ⟨bc, bf⟩ := bcell hb1
            have hz1 := hb1.size
            have HO1 := Lib.hid (ownsRow_below HO.out hb1)
            have HB1 := Lib.hid hb1
            clear hb1
            have lt1 : w.heap.size < w1.heap.size := by omega
            have g0 : w1.cell? ⟨w.heap.size, 0, none⟩ = some (.int .i64 h) := by rw [bc _ _ hlt0]; exact c0
            have g1 : w1.cell? ⟨w.heap.size, 1, none⟩ = some (.int .u64 (B : Int)) := by rw [bc _ _ hlt0]; exact c1
            have e0 : w1.frozen? ⟨w.heap.size, 0, none⟩ = false := by rw [bf _ _ hlt0]; exact f0
            have e1 : w1.frozen? ⟨w.heap.size, 1, none⟩ = false := by rw [bf _ _ hlt0]; exact f1
            clear bc bf c0 c1 f0 f1
            go_wp2
            go_roundw
            case rel =>
              refine ⟨k + 1, h, B, had, by omega, by omega, by omega, by go_num, rfl, hh, HI.out, HO1.out.alloc _, blw_alloc (below_then HB.out HB.out.size HB1.out) _, by simp; omega, ?_, ?_, ?_, ?_⟩
              all_goals go_simp
            case measure => simp [intOf]; omega
          · by_cases jm : id ∈ had
            · have hw14 : judgeI h B id = 14 := by rw [HJ.out, if_neg j13, if_pos jm]
              have hne : judgeI h B id ≠ 0 := by rw [hw14]; decide
              have ht := fun w => take_no h B id w HI.out.lt HI.out.may i0 (by omega) hne
              rw [hw14] at ht
              have HT := Lib.hid ht
              rw [show wantI had id = 14 by unfold wantI; rw [if_pos jm]]
              clear ht hne hw14 hw jm
              go_wp2_with (fail)
              go_at_call 24
              refine (HT.out _).mono ?_
              rintro e w1 ⟨rfl, hb1⟩
              obtain ⟨bc, bf⟩ := bcell hb1
              have hz1 := hb1.size
              have HO1 := Lib.hid (ownsRow_below HO.out hb1)
              have HB1 := Lib.hid hb1
              clear hb1
              have lt1 : w.heap.size < w1.heap.size := by omega
              have g0 : w1.cell? ⟨w.heap.size, 0, none⟩ = some (.int .i64 h) := by rw [bc _ _ hlt0]; exact c0
              have g1 : w1.cell? ⟨w.heap.size, 1, none⟩ = some (.int .u64 (B : Int)) := by rw [bc _ _ hlt0]; exact c1
              have e0 : w1.frozen? ⟨w.heap.size, 0, none⟩ = false := by rw [bf _ _ hlt0]; exact f0
              have e1 : w1.frozen? ⟨w.heap.size, 1, none⟩ = false := by rw [bf _ _ hlt0]; exact f1
              clear bc bf c0 c1 f0 f1
              go_wp2
              go_roundw
              case rel =>
                refine ⟨k + 1, h, B, had, by omega, by omega, by omega, by go_num, rfl, hh, HI.out, HO1.out.alloc _, blw_alloc (below_then HB.out HB.out.size HB1.out) _, by simp; omega, ?_, ?_, ?_, ?_⟩
                all_goals go_simp
              case measure => simp [intOf]; omega
            · have hw0 : judgeI h B id = 0 := by rw [HJ.out, if_neg j13, if_neg jm]
              have HNX := Lib.hid (inv_take HI.out id i0 (by omega) hw0)
              have HT := Lib.hid (fun w => take_yes h B id w HI.out.lt HI.out.may i0 (by omega) hw0)
              have eH : takeH h id = max h id := by unfold takeH; split <;> omega
              rw [eH] at HNX HT
              have hmx2 : max h id ≤ 300 := by omega
              have hmx3 := Lib.hid (show max h id = max h id from rfl)
              generalize takeB h B id = nb at *
              rw [show wantI had id = 0 by unfold wantI; rw [if_neg jm]]
              clear hw0 hw jm eH
              go_wp2_with (fail)
              go_at_call 24
              refine (HT.out _).mono ?_
              rintro e w1 ⟨rfl, hb1⟩
              obtain ⟨bc, bf⟩ := bcell hb1
              have hz1 := hb1.size
              have HO1 := Lib.hid (ownsRow_below HO.out hb1)
              have HB1 := Lib.hid hb1
              clear hb1
              have lt1 : w.heap.size < w1.heap.size := by omega
              have g0 : w1.cell? ⟨w.heap.size, 0, none⟩ = some (.int .i64 h) := by rw [bc _ _ hlt0]; exact c0
              have g1 : w1.cell? ⟨w.heap.size, 1, none⟩ = some (.int .u64 (B : Int)) := by rw [bc _ _ hlt0]; exact c1
              have e0 : w1.frozen? ⟨w.heap.size, 0, none⟩ = false := by rw [bf _ _ hlt0]; exact f0
              have e1 : w1.frozen? ⟨w.heap.size, 1, none⟩ = false := by rw [bf _ _ hlt0]; exact f1
              clear bc bf c0 c1 f0 f1
              have hln : had.length ≤ 300 := by omega
              go_wp2_with (at_builtin; go_must (refine app1g (w0 := _) (w.heap.size + 1) rfl (.tmp 56) (.tmp 58) 54 3 (.int .i64 0) 1 8 rfl Try.underlying54 info_int rfl (by decide) (by decide) _ had.length (had.flatMap encI) [.int .i64 id] rfl _ rfl rfl ?c1 ?co (Below.refl _ _) ?cb ?cg ?cl ?_); (case c1 => simp [Value.oneCell']); (case co => repeat (first | exact HO1.out | refine ownsRow_setCell_below ?_ (by simp) _ | refine World.ownsRow.alloc ?_ _)); (case cb => simp; omega); (case cg => simp); (case cl => omega); intro v1 w2 ho2 hb2 _ _; have HO2 := Lib.hid ho2; have bc2 := fun o => hb2.cell (p := ⟨w.heap.size, o, none⟩) (by simp); have bf2 := fun o => hb2.frozen (p := ⟨w.heap.size, o, none⟩) (by simp); have hz2 := hb2.size; simp at hz2; have HB2 := Lib.hid hb2; clear hb2 ho2)
              go_roundw
              case rel =>
                refine ⟨k + 1, max h id, nb, had ++ [id], by omega, by omega, by simp; omega, by go_num, rfl, hmx2, HNX.out, ?_, ?_, by omega, ?_, ?_, ?_, ?_⟩
                · rw [List.length_append, List.flatMap_append]
                  exact HO2.out
                · have hW := blw_alloc (((below_then HB.out HB.out.size HB1.out).setCell (p := ⟨w.heap.size, 0, none⟩) (by simp) (.int .i64 (max h id))).setCell (p := ⟨w.heap.size, 1, none⟩) (by simp) (.int .u64 (nb : Int))) (.cells #[.int .i64 (max h id), .int .u64 (nb : Int)] 56)
                  exact hW.trans (HB2.out.mono (by omega))
                · rw [bc2]; go_simp
                · rw [bc2]; go_simp
                · rw [bf2]; go_simp
                · rw [bf2]; go_simp
              case measure => simp [intOf]; omega
    · by_cases l1 : k < ids.length
      all_goals
        go_wp2
        go_ret
        exact ⟨by first | rfl | exact ret_bool (by simp), HB.out⟩
end Go.Proofs.Ytjopjlnnmhokfaa.WindowOnce
