/- Contracts: keypad.may, Press; the law's script. -/
import Derived.Test.YthalkihhkkgkiaaDoorPad
import Derived.Test.YthalkihhkkgkiaaDoorNum
import Derived.Laws.RangeAny
namespace Go.Proofs.YthalkihhkkgkiaaDoor.Pad
open Go.RowKit Go.Proofs.YthalkihhkkgkiaaDoor.Base
set_option linter.unusedVariables false
set_option linter.unusedSimpArgs false
set_option maxRecDepth 20000
set_option maxHeartbeats 2000000 in
theorem may_yes (p : Pd) (hp : p.ok) (w : World) : Calls Tryd.prog 15 #[.agg p.vals] w fun e w' => e = .returned (.bool true) ∧ Below w.heap.size w w' := by
  obtain ⟨h1, h2⟩ := hp
  obtain ⟨d, b⟩ := p
  simp only at h1 h2
  unfold Pd.vals
  simp only
  have hz := strOf_size d
  have hd : ∀ i (h : i < (strOf d).size), 48 ≤ ((strOf d)[i]'h).toNat ∧ ((strOf d)[i]'h).toNat ≤ 57 := by
    intro i h
    have h3 := bytes_at (strOf d) i h
    rw [strOf_data] at h3
    have h4 := h2 _ (List.mem_of_getElem? h3)
    unfold isDg at h4
    simpa using h4
  have HD := Lib.hid hd
  have hs30 : (strOf d).size ≤ 30 := by omega
  clear h1 h2 hd hz
  generalize strOf d = s at *
  go_enter Tryd.func15, Tryd.ntmps15
  go_upto_region 3 with fail
  obtain ⟨W, hW⟩ : ∃ W, W = w.alloc (.cells #[.string s, .bool b] 26) := ⟨_, rfl⟩
  have CR : Hid (Cs W w.heap.size [.string s, .bool b]) := Lib.hid (by rw [hW]; exact Cs.new rfl)
  have HB : Hid (Below w.heap.size w W) := Lib.hid (by rw [hW]; exact blw_alloc (Below.refl _ _) _)
  rw [← hW]
  clear hW
  have c0 := (CR.out.at 0 rfl).1
  have lr := CR.out.1
  go_upto_region 4 with fail
  go_loopw [] (fun w' => ∃ pos : Nat, pos ≤ s.size ∧ w' = W.iter s pos) (fun w' => s.size - w'.iterPos W.heap.size)
  case atStart => exact ⟨0, by omega, rfl⟩
  case round =>
    obtain ⟨pos, hp0, rfl⟩ := hrel
    by_cases hp : pos < s.size
    · obtain ⟨d0, d1⟩ := HD.out pos hp
      have hnx : ∀ ty, (Instr.next (.pointer (some ⟨W.heap.size, 0, none⟩)) true ty).run Tryd.prog (W.iter s pos) = _ := fun ty => run_next_ascii W s pos ty hp (by omega)
      go_wp2_with fail
      go_roundw
      case rel => exact ⟨pos + 1, by omega, rfl⟩
      case measure => simp; omega
    · obtain rfl : pos = s.size := by omega
      have hnx : ∀ ty, (Instr.next (.pointer (some ⟨W.heap.size, 0, none⟩)) true ty).run Tryd.prog (W.iter s s.size) = _ := fun ty => run_next_end W s s.size ty (Nat.lt_irrefl _)
      go_wp2_with fail
      go_ret
      exact ⟨rfl, below_then' HB.out (below_iter W s _)⟩
def scriptI (n : Int) : Int := let k := pk n 6; if k = 0 then 48 else if k = 1 then 1632 else if k = 2 then 1776 else if k = 3 then 2406 else if k = 4 then 2534 else 65296
theorem script_any (n : Int) (w : World) (h0 : -9223372036854775808 ≤ n) (h1 : n ≤ 9223372036854775807) : Calls Tryd.prog 9 #[.int .i64 n] w fun e w' => e = .returned (.int .i32 (scriptI n)) ∧ w = w' := by
  have HP := Lib.hid (fun W => picked_any n 6 W h0 h1 (by omega))
  have hs : scriptI n = if pk n 6 = 0 then 48 else if pk n 6 = 1 then 1632 else if pk n 6 = 2 then 1776 else if pk n 6 = 3 then 2406 else if pk n 6 = 4 then 2534 else 65296 := rfl
  obtain ⟨b0, b1⟩ := pk_bound n 6 (by decide)
  rw [hs]
  clear hs
  generalize pk n 6 = k at *
  have hk : k = 0 ∨ k = 1 ∨ k = 2 ∨ k = 3 ∨ k = 4 ∨ k = 5 := by omega
  rcases hk with rfl | rfl | rfl | rfl | rfl | rfl
  all_goals
    go_enter Tryd.func9, Tryd.ntmps9
    go_wp2_with fail
    go_at_call 11
    refine (HP.out _).mono ?_
    rintro e w1 ⟨rfl, rfl⟩
    go_wp2_with fail
    go_ret
    exact ⟨rfl, rfl⟩
theorem script_val (n d : Int) (d0 : 0 ≤ d) (d1 : d ≤ 9) : valI (scriptI n + d) = d ∧ (48 ≤ scriptI n ∧ scriptI n ≤ 65296) ∧ scriptI n + d ≠ 32 ∧ scriptI n + d ≠ 45 ∧ scriptI n + d ≠ 160 ∧ scriptI n + d ≠ 42 ∧ scriptI n + d ≠ 35 := by
  unfold scriptI
  simp only
  repeat' split
  all_goals
    refine ⟨?_, by omega, by omega, by omega, by omega, by omega, by omega⟩
    unfold valI zin
    (repeat (first | rw [if_pos (by omega)] | rw [if_neg (by omega)]))
    omega
/-- Press, where no entry comes of it. -/
theorem Press_none (p : Pd) (r : Int) (w : World) (hp : p.ok) (r0 : -2147483648 ≤ r) (r1 : r ≤ 2147483647) (hn : (pressP p r).2 = none) : Calls Tryd.prog 10 #[.agg p.vals, .int .i32 r] w fun e w' => e = .returned (.tuple #[.agg (pressP p r).1.vals, .slice none 0 0, .int .i64 0]) ∧ Below w.heap.size w w' := by
  have HM := Lib.hid (fun W => may_yes p hp W)
  have HP := Lib.hid (fun W => press_any p r W hp r0 r1)
  simp only [hn] at HP
  generalize (pressP p r).1 = q at *
  clear hn hp
  obtain ⟨d, b⟩ := p
  obtain ⟨d2, b2⟩ := q
  unfold Pd.vals at HM HP ⊢
  simp only at HM HP ⊢
  generalize strOf d = s at *
  generalize strOf d2 = s2 at *
  go_enter Tryd.func10, Tryd.ntmps10
  go_wp2_with (fail)
  go_at_call 15
  refine (HM.out _).mono ?_
  rintro e w1 ⟨rfl, hb⟩
  have hwz1 := hb.size
  try simp at hwz1
  have HBw1 : Hid (Below w.heap.size w w1) := Lib.hid (below_then' (by repeat (first | with_reducible exact Below.refl _ _ | with_reducible refine blw_alloc ?_ _ | with_reducible refine Below.drew ?_ | with_reducible refine blw_step ?_ _ | with_reducible refine Below.setCell (p := ⟨_, _, none⟩) ?_ (by first | exact Nat.le_refl _ | (simp; done) | (simp; omega) | omega) _)) hb)
  have Cpw1 : Hid (Cs w1 (w.heap.size) [.string s, .bool b]) := Lib.hid ((show Cs _ (w.heap.size) [.string s, .bool b] from (by (repeat (first | (with_reducible refine Cs.new ?_; focus (first | rfl | (simp; done) | omega)) | with_reducible refine Cs.alloc ?_ _ | with_reducible refine Cs.drew ?_ | with_reducible refine Cs.drewN ?_ _ | (with_reducible refine Cs.other ?_ ?_ _; focus (first | omega | (simp; omega))) | with_reducible apply Cs.put)) <;> first | rfl | (simp; done))).after hb)
  have Crw1 : Hid (Cs w1 (w.heap.size + 1) [.string ⟨#[]⟩, .bool false]) := Lib.hid ((show Cs _ (w.heap.size + 1) [.string ⟨#[]⟩, .bool false] from (by (repeat (first | (with_reducible refine Cs.new ?_; focus (first | rfl | (simp; done) | omega)) | with_reducible refine Cs.alloc ?_ _ | with_reducible refine Cs.drew ?_ | with_reducible refine Cs.drewN ?_ _ | (with_reducible refine Cs.other ?_ ?_ _; focus (first | omega | (simp; omega))) | with_reducible apply Cs.put)) <;> first | rfl | (simp; done))).after hb)
  clear hb
  have lpw1 := Cpw1.out.1
  have pw1g0 := (Cpw1.out.at 0 rfl).1
  have pw1g1 := (Cpw1.out.at 1 rfl).1
  have lrw1 := Crw1.out.1
  go_wp2_with (fail)
  go_at_call 14
  refine (HP.out _).mono ?_
  rintro e w2 ⟨rfl, hb⟩
  have hwz2 := hb.size
  try simp at hwz2
  have HBw2 : Hid (Below w.heap.size w w2) := Lib.hid (below_then' (by repeat (first | with_reducible exact HBw1.out | with_reducible refine blw_alloc ?_ _ | with_reducible refine Below.drew ?_ | with_reducible refine blw_step ?_ _ | with_reducible refine Below.setCell (p := ⟨_, _, none⟩) ?_ (by first | exact Nat.le_refl _ | (simp; done) | (simp; omega) | omega) _)) hb)
  have Crw2 : Hid (Cs w2 (w.heap.size + 1) [.string ⟨#[]⟩, .bool false]) := Lib.hid ((show Cs _ (w.heap.size + 1) [.string ⟨#[]⟩, .bool false] from (by (repeat (first | with_reducible exact Crw1.out | (with_reducible refine Cs.new ?_; focus (first | rfl | (simp; done) | omega)) | with_reducible refine Cs.alloc ?_ _ | with_reducible refine Cs.drew ?_ | with_reducible refine Cs.drewN ?_ _ | (with_reducible refine Cs.other ?_ ?_ _; focus (first | omega | (simp; omega))) | with_reducible apply Cs.put)) <;> first | rfl | (simp; done))).after hb)
  clear pw1g0 pw1g1 hb
  have lrw2 := Crw2.out.1
  have rw2g0 := (Crw2.out.at 0 rfl).1
  have rw2f0 := (Crw2.out.at 0 rfl).2
  have rw2g1 := (Crw2.out.at 1 rfl).1
  have rw2f1 := (Crw2.out.at 1 rfl).2
  go_upto_region 4 with fail
  obtain ⟨u, hu⟩ : ∃ u, u = w2.alloc (.cells #[.string s2, .bool b2] 26) := ⟨_, rfl⟩
  have Cru : Hid (Cs u (w.heap.size + 1) [.string ⟨#[]⟩, .bool false]) := Lib.hid (by rw [hu]; exact Cs.alloc Crw2.out _)
  have Cqu : Hid (Cs u (w2.heap.size) [.string s2, .bool b2]) := Lib.hid (by rw [hu]; exact Cs.new rfl)
  have HBu : Hid (Below w.heap.size w u) := Lib.hid (by rw [hu]; exact blw_alloc HBw2.out _)
  rw [← hu]
  clear hu rw2g0 rw2f0 rw2g1 rw2f1
  have lru := Cru.out.1
  have rug0 := (Cru.out.at 0 rfl).1
  have ruf0 := (Cru.out.at 0 rfl).2
  have rug1 := (Cru.out.at 1 rfl).1
  have ruf1 := (Cru.out.at 1 rfl).2
  have lqu := Cqu.out.1
  have qug0 := (Cqu.out.at 0 rfl).1
  have qug1 := (Cqu.out.at 1 rfl).1
  go_wp2_with fail
  refine bodyPost_ret (v := .tuple #[.agg #[.string s2, .bool b2], .slice none 0 0, .int .i64 0]) (by simp [results, Tryd.results10, go_sem, rug0, rug1, ruf0, ruf1]) rfl ⟨rfl, (HBu.out.setCell (p := ⟨w.heap.size + 1, 0, none⟩) (by simp) _).setCell (p := ⟨w.heap.size + 1, 1, none⟩) (by simp) _⟩
end Go.Proofs.YthalkihhkkgkiaaDoor.Pad
