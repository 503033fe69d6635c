/- The contract of token.Words. -/
import Derived.Test.YtccjcdecpgigpaaDoorTokP
import Derived.Test.YtccjcdecpgigpaaDoorBits
import Derived.Test.YtccjcdecpgigpaaDoorOver
import Derived.Test.YtccjcdecpgigpaaDoorCs
namespace Go.Proofs.YtccjcdecpgigpaaDoor.Tok
open Go.RowKit Go.Proofs.YtccjcdecpgigpaaDoor.Base Go.Proofs.YtccjcdecpgigpaaDoor.Dig Go.Proofs.YtccjcdecpgigpaaDoor.Word Go.Proofs.YtccjcdecpgigpaaDoor.Bits
set_option linter.unusedVariables false
set_option linter.unusedSimpArgs false
set_option maxRecDepth 20000
/-- A number as a wide one. -/
def wN (n : Nat) : W3 := ⟨((n % 4294967296 : Nat) : Int), ((n / 4294967296 % 4294967296 : Nat) : Int), ((n / 18446744073709551616 : Nat) : Int)⟩
theorem wN_ok {n : Nat} (h : n < 79228162514264337593543950336) : (wN n).ok := by
  unfold wN W3.ok wd
  simp only
  omega
theorem wN_num (n : Nat) : (wN n).num = n := by
  unfold wN W3.num
  simp only
  omega
theorem wN_put (N lo n v : Nat) (hN : N < 2 ^ lo) : putN N lo n v = 2 ^ lo * v + N := by
  unfold putN
  rw [Nat.div_eq_of_lt (Nat.lt_of_lt_of_le hN (Nat.pow_le_pow_right (by decide) (by omega))), Nat.mul_zero, Nat.zero_add, Nat.mod_eq_of_lt hN]
theorem put_w (N lo n v M : Nat) (w : World) (hN : N < 79228162514264337593543950336) (hlt : N < 2 ^ lo) (h1 : 1 ≤ n) (h2 : n ≤ 64) (h3 : lo + n ≤ 96) (hv : v < 2 ^ n) (hM : 2 ^ lo * v + N = M) (hM2 : M < 79228162514264337593543950336) :
    Calls Tryd.prog 79 #[.agg #[.int .u32 (wN N).a, .int .u32 (wN N).b, .int .u32 (wN N).c], .int .i64 (lo : Int), .int .i64 (n : Int), .int .u64 (v : Int)] w fun e w' => e = .returned (.tuple #[.agg #[.int .u32 (wN M).a, .int .u32 (wN M).b, .int .u32 (wN M).c], .int .i64 0]) ∧ Below w.heap.size w w' := by
  have h := put_any (N % 4294967296) (N / 4294967296 % 4294967296) (N / 18446744073709551616) lo n v w (by omega) (by omega) (by omega) h1 h2 h3 hv
  have e : N % 4294967296 + N / 4294967296 % 4294967296 * 4294967296 + N / 18446744073709551616 * 18446744073709551616 = N := by omega
  rw [e, wN_put N lo n v hlt, hM] at h
  have w0 : ((wordN M 0 : Nat) : Int) = (wN M).a := by unfold wordN wN; simp
  have w1 : ((wordN M 1 : Nat) : Int) = (wN M).b := by unfold wordN wN; simp
  have w2 : ((wordN M 2 : Nat) : Int) = (wN M).c := by unfold wordN wN; simp; omega
  rw [w0, w1, w2] at h
  exact h
theorem times_w (N m M : Nat) (w : World) (hm : m < 4294967296) (hM : N * m = M) (hN : N < 79228162514264337593543950336) (hM2 : M < 79228162514264337593543950336) :
    Calls Tryd.prog 80 #[.agg #[.int .u32 (wN N).a, .int .u32 (wN N).b, .int .u32 (wN N).c], .int .u32 (m : Int)] w fun e w' => e = .returned (.tuple #[.agg #[.int .u32 (wN M).a, .int .u32 (wN M).b, .int .u32 (wN M).c], .int .u32 0]) ∧ Below w.heap.size w w' := by
  have hwm : wd (m : Int) := by unfold wd; omega
  have h := times_any (wN N) m w (wN_ok hN) hwm
  have hn := times_num (wN N) m
  have ok := timesW_ok (wN N) m
  have hb := num_bound ok
  have hc := (timesC_wd (wN N) m (wN_ok hN) hwm).1
  rw [wN_num, ← Int.natCast_mul, hM] at hn
  have e1 : timesC (wN N) m = 0 := by omega
  have e2 : timesW (wN N) m = wN M := num_inj ok (wN_ok hM2) (by rw [wN_num]; omega)
  rw [e1, e2] at h
  exact h
set_option maxHeartbeats 4000000 in
theorem words_no (t : Tk) (h : faultI t ≠ 0) (w : World) : Calls Tryd.prog 36 #[.agg t.vals] w fun e w' => e = .returned (.tuple #[.agg #[.int .u32 0, .int .u32 0, .int .u32 0], .int .i64 (faultI t)]) ∧ Below w.heap.size w w' := by
  have HF := Lib.hid (fun W => fault_any t W)
  have he : (faultI t != 0) = true := bne_iff_ne.mpr h
  clear h
  generalize faultI t = fe at *
  obtain ⟨cl, id, am, tag⟩ := t
  unfold Tk.vals at HF ⊢
  simp only at *
  go_enter Tryd.func36, Tryd.ntmps36
  go_wp2_with (fail)
  go_at_call 44
  refine (HF.out _).mono ?_
  rintro e w1 ⟨rfl, hb⟩
  have hwz1 := hb.size
  try simp at hwz1
  have HBw1 : Hid (Below w.heap.size w w1) := Lib.hid (below_then' (by repeat (first | with_reducible exact Below.refl _ _ | with_reducible refine blw_alloc ?_ _ | with_reducible refine Below.drew ?_ | with_reducible refine blw_step ?_ _ | with_reducible refine Below.setCell (p := ⟨_, _, none⟩) ?_ (by first | exact Nat.le_refl _ | (simp; done) | (simp; omega) | omega) _)) hb)
  have Crw1 : Hid (Cs w1 (w.heap.size + 1) [.int .u32 0, .int .u32 0, .int .u32 0]) := Lib.hid ((show Cs _ (w.heap.size + 1) [.int .u32 0, .int .u32 0, .int .u32 0] from (by (repeat (first | (with_reducible refine Cs.new ?_; focus (first | rfl | (simp; done) | omega)) | with_reducible refine Cs.alloc ?_ _ | with_reducible refine Cs.drew ?_ | with_reducible refine Cs.drewN ?_ _ | (with_reducible refine Cs.other ?_ ?_ _; focus (first | omega | (simp; omega))) | with_reducible apply Cs.put)) <;> first | rfl | (simp; done))).after hb)
  clear hb
  have lrw1 := Crw1.out.1
  have rw1g0 := (Crw1.out.at 0 rfl).1
  have rw1f0 := (Crw1.out.at 0 rfl).2
  have rw1g1 := (Crw1.out.at 1 rfl).1
  have rw1f1 := (Crw1.out.at 1 rfl).2
  have rw1g2 := (Crw1.out.at 2 rfl).1
  have rw1f2 := (Crw1.out.at 2 rfl).2
  go_wp2_with fail
  refine bodyPost_ret (v := .tuple #[.agg #[.int .u32 0, .int .u32 0, .int .u32 0], .int .i64 fe]) (by simp [results, Tryd.results36, go_sem, rw1g0, rw1g1, rw1g2, rw1f0, rw1f1, rw1f2]) rfl ⟨rfl, ?_⟩
  exact ((HBw1.out.setCell (p := ⟨w.heap.size + 1, 0, none⟩) (by simp) _).setCell (p := ⟨w.heap.size + 1, 1, none⟩) (by simp) _).setCell (p := ⟨w.heap.size + 1, 2, none⟩) (by simp) _
set_option maxHeartbeats 8000000 in
theorem words_yes (t : Tk) (h : faultI t = 0) (w : World) : Calls Tryd.prog 36 #[.agg t.vals] w fun e w' => e = .returned (.tuple #[.agg #[.int .u32 (wN (97 * tokN t)).a, .int .u32 (wN (97 * tokN t)).b, .int .u32 (wN (97 * tokN t)).c], .int .i64 0]) ∧ Below w.heap.size w w' := by
  have HF := Lib.hid (fun W => fault_any t W)
  rw [h] at HF
  obtain ⟨⟨a0, a1⟩, ⟨b0, b1⟩, ⟨c0, c1⟩, d0, d1⟩ := good_lim h
  have hlt := tokN_lt h
  have hN : tokN t = t.tag.toNat + t.am.toNat * 65536 + t.id.toNat * 137438953472 + t.cl.toNat * 144115188075855872 := rfl
  obtain ⟨cl, id, am, tag⟩ := t
  unfold Tk.vals at HF ⊢
  simp only at *
  clear h
  obtain ⟨cl, rfl⟩ := Int.eq_ofNat_of_zero_le a0
  obtain ⟨id, rfl⟩ := Int.eq_ofNat_of_zero_le (by omega : 0 ≤ id)
  obtain ⟨am, rfl⟩ := Int.eq_ofNat_of_zero_le c0
  obtain ⟨tag, rfl⟩ := Int.eq_ofNat_of_zero_le d0
  simp only [Int.toNat_natCast] at hN
  have P1 := Lib.hid (fun W => put_w 0 0 16 tag tag W (by omega) (by omega) (by omega) (by omega) (by omega) (by omega) (by omega) (by omega))
  have P2 := Lib.hid (fun W => put_w tag 16 21 am (tag + am * 65536) W (by omega) (by omega) (by omega) (by omega) (by omega) (by omega) (by omega) (by omega))
  have P3 := Lib.hid (fun W => put_w (tag + am * 65536) 37 20 id (tag + am * 65536 + id * 137438953472) W (by omega) (by omega) (by omega) (by omega) (by omega) (by omega) (by omega) (by omega))
  have P4 := Lib.hid (fun W => put_w (tag + am * 65536 + id * 137438953472) 57 2 cl (tag + am * 65536 + id * 137438953472 + cl * 144115188075855872) W (by omega) (by omega) (by omega) (by omega) (by omega) (by omega) (by omega) (by omega))
  rw [← hN] at P4
  generalize tokN ⟨(cl : Int), (id : Int), (am : Int), (tag : Int)⟩ = T at *
  have PT := Lib.hid (fun W => times_w T 97 (97 * T) W (by omega) (by omega) (by omega) (by omega))
  clear hN hlt
  rw [show wN 0 = ⟨0, 0, 0⟩ from rfl] at P1
  generalize wN (97 * T) = x5 at *
  generalize wN T = x4 at *
  generalize wN (tag + am * 65536 + id * 137438953472) = x3 at *
  generalize wN (tag + am * 65536) = x2 at *
  generalize wN tag = x1 at *
  obtain ⟨p1, q1, r1⟩ := x1
  obtain ⟨p2, q2, r2⟩ := x2
  obtain ⟨p3, q3, r3⟩ := x3
  obtain ⟨p4, q4, r4⟩ := x4
  obtain ⟨p5, q5, r5⟩ := x5
  simp only at P1 P2 P3 P4 PT ⊢
  have ix0 : ∀ W, (Instr.index 166 (.agg #[.int .i64 16, .int .i64 (tag : Int), .int .i64 21, .int .i64 (am : Int), .int .i64 20, .int .i64 (id : Int), .int .i64 2, .int .i64 (cl : Int)]) (.int .i64 0)).run Tryd.prog W = .ok (.agg #[.int .i64 16, .int .i64 (tag : Int)]) W := fun W => by
    simp [Instr.index, go_sem]
  have ix1 : ∀ W, (Instr.index 166 (.agg #[.int .i64 16, .int .i64 (tag : Int), .int .i64 21, .int .i64 (am : Int), .int .i64 20, .int .i64 (id : Int), .int .i64 2, .int .i64 (cl : Int)]) (.int .i64 1)).run Tryd.prog W = .ok (.agg #[.int .i64 21, .int .i64 (am : Int)]) W := fun W => by
    simp [Instr.index, go_sem]
  have ix2 : ∀ W, (Instr.index 166 (.agg #[.int .i64 16, .int .i64 (tag : Int), .int .i64 21, .int .i64 (am : Int), .int .i64 20, .int .i64 (id : Int), .int .i64 2, .int .i64 (cl : Int)]) (.int .i64 2)).run Tryd.prog W = .ok (.agg #[.int .i64 20, .int .i64 (id : Int)]) W := fun W => by
    simp [Instr.index, go_sem]
  have ix3 : ∀ W, (Instr.index 166 (.agg #[.int .i64 16, .int .i64 (tag : Int), .int .i64 21, .int .i64 (am : Int), .int .i64 20, .int .i64 (id : Int), .int .i64 2, .int .i64 (cl : Int)]) (.int .i64 3)).run Tryd.prog W = .ok (.agg #[.int .i64 2, .int .i64 (cl : Int)]) W := fun W => by
    simp [Instr.index, go_sem]
  go_enter Tryd.func36, Tryd.ntmps36
  go_wp2_with (fail)
  go_at_call 44
  refine (HF.out _).mono ?_
  rintro e w1 ⟨rfl, hb⟩
  have hwz1 := hb.size
  try simp at hwz1
  have HBw1 : Hid (Below w.heap.size w w1) := Lib.hid (below_then' (by repeat (first | with_reducible exact Below.refl _ _ | with_reducible refine blw_alloc ?_ _ | with_reducible refine Below.drew ?_ | with_reducible refine blw_step ?_ _ | with_reducible refine Below.setCell (p := ⟨_, _, none⟩) ?_ (by first | exact Nat.le_refl _ | (simp; done) | (simp; omega) | omega) _)) hb)
  have Cvw1 : Hid (Cs w1 (w.heap.size) [.int .i64 (cl : Int), .int .i64 (id : Int), .int .i64 (am : Int), .int .i64 (tag : Int)]) := Lib.hid ((show Cs _ (w.heap.size) [.int .i64 (cl : Int), .int .i64 (id : Int), .int .i64 (am : Int), .int .i64 (tag : Int)] from (by (repeat (first | (with_reducible refine Cs.new ?_; focus (first | rfl | (simp; done) | omega)) | with_reducible refine Cs.alloc ?_ _ | with_reducible refine Cs.drew ?_ | with_reducible refine Cs.drewN ?_ _ | (with_reducible refine Cs.other ?_ ?_ _; focus (first | omega | (simp; omega))) | with_reducible apply Cs.put)) <;> first | rfl | (simp; done))).after hb)
  have Crw1 : Hid (Cs w1 (w.heap.size + 1) [.int .u32 0, .int .u32 0, .int .u32 0]) := Lib.hid ((show Cs _ (w.heap.size + 1) [.int .u32 0, .int .u32 0, .int .u32 0] from (by (repeat (first | (with_reducible refine Cs.new ?_; focus (first | rfl | (simp; done) | omega)) | with_reducible refine Cs.alloc ?_ _ | with_reducible refine Cs.drew ?_ | with_reducible refine Cs.drewN ?_ _ | (with_reducible refine Cs.other ?_ ?_ _; focus (first | omega | (simp; omega))) | with_reducible apply Cs.put)) <;> first | rfl | (simp; done))).after hb)
  clear hb
  have lvw1 := Cvw1.out.1
  have vw1g0 := (Cvw1.out.at 0 rfl).1
  have vw1g1 := (Cvw1.out.at 1 rfl).1
  have vw1g2 := (Cvw1.out.at 2 rfl).1
  have vw1g3 := (Cvw1.out.at 3 rfl).1
  have lrw1 := Crw1.out.1
  go_wp2_with (fail)
  refine wp_loop_rounds 5 ?_
  rw [rounds_succ]
  go_wp2_with (fail)
  go_at_call 79
  refine (P1.out _).mono ?_
  rintro e w2 ⟨rfl, hb⟩
  have hwz2 := hb.size
  try simp at hwz2
  have HBw2 : Hid (Below w.heap.size w w2) := Lib.hid (below_then' (by repeat (first | with_reducible exact HBw1.out | with_reducible refine blw_alloc ?_ _ | with_reducible refine Below.drew ?_ | with_reducible refine blw_step ?_ _ | with_reducible refine Below.setCell (p := ⟨_, _, none⟩) ?_ (by first | exact Nat.le_refl _ | (simp; done) | (simp; omega) | omega) _)) hb)
  have Crw2 : Hid (Cs w2 (w.heap.size + 1) [.int .u32 0, .int .u32 0, .int .u32 0]) := Lib.hid ((show Cs _ (w.heap.size + 1) [.int .u32 0, .int .u32 0, .int .u32 0] from (by (repeat (first | with_reducible exact Crw1.out | (with_reducible refine Cs.new ?_; focus (first | rfl | (simp; done) | omega)) | with_reducible refine Cs.alloc ?_ _ | with_reducible refine Cs.drew ?_ | with_reducible refine Cs.drewN ?_ _ | (with_reducible refine Cs.other ?_ ?_ _; focus (first | omega | (simp; omega))) | with_reducible apply Cs.put)) <;> first | rfl | (simp; done))).after hb)
  have Cxw2 : Hid (Cs w2 (w1.heap.size) [.int .u32 0, .int .u32 0, .int .u32 0]) := Lib.hid ((show Cs _ (w1.heap.size) [.int .u32 0, .int .u32 0, .int .u32 0] from (by (repeat (first | (with_reducible refine Cs.new ?_; focus (first | rfl | (simp; done) | omega)) | with_reducible refine Cs.alloc ?_ _ | with_reducible refine Cs.drew ?_ | with_reducible refine Cs.drewN ?_ _ | (with_reducible refine Cs.other ?_ ?_ _; focus (first | omega | (simp; omega))) | with_reducible apply Cs.put)) <;> first | rfl | (simp; done))).after hb)
  have Cfw2 : Hid (Cs w2 (w1.heap.size + 1) [.int .i64 16, .int .i64 (tag : Int)]) := Lib.hid ((show Cs _ (w1.heap.size + 1) [.int .i64 16, .int .i64 (tag : Int)] from (by (repeat (first | (with_reducible refine Cs.new ?_; focus (first | rfl | (simp; done) | omega)) | with_reducible refine Cs.alloc ?_ _ | with_reducible refine Cs.drew ?_ | with_reducible refine Cs.drewN ?_ _ | (with_reducible refine Cs.other ?_ ?_ _; focus (first | omega | (simp; omega))) | with_reducible apply Cs.put)) <;> first | rfl | (simp; done))).after hb)
  clear vw1g0 vw1g1 vw1g2 vw1g3 hb
  have lrw2 := Crw2.out.1
  have lxw2 := Cxw2.out.1
  have xw2g0 := (Cxw2.out.at 0 rfl).1
  have xw2f0 := (Cxw2.out.at 0 rfl).2
  have xw2g1 := (Cxw2.out.at 1 rfl).1
  have xw2f1 := (Cxw2.out.at 1 rfl).2
  have xw2g2 := (Cxw2.out.at 2 rfl).1
  have xw2f2 := (Cxw2.out.at 2 rfl).2
  have lfw2 := Cfw2.out.1
  have fw2g0 := (Cfw2.out.at 0 rfl).1
  have fw2g1 := (Cfw2.out.at 1 rfl).1
  go_wp2_with (fail)
  rw [rounds_succ]
  go_wp2_with (fail)
  go_at_call 79
  refine (P2.out _).mono ?_
  rintro e w3 ⟨rfl, hb⟩
  have hwz3 := hb.size
  try simp at hwz3
  have HBw3 : Hid (Below w.heap.size w w3) := Lib.hid (below_then' (by repeat (first | with_reducible exact HBw2.out | with_reducible refine blw_alloc ?_ _ | with_reducible refine Below.drew ?_ | with_reducible refine blw_step ?_ _ | with_reducible refine Below.setCell (p := ⟨_, _, none⟩) ?_ (by first | exact Nat.le_refl _ | (simp; done) | (simp; omega) | omega) _)) hb)
  have Crw3 : Hid (Cs w3 (w.heap.size + 1) [.int .u32 0, .int .u32 0, .int .u32 0]) := Lib.hid ((show Cs _ (w.heap.size + 1) [.int .u32 0, .int .u32 0, .int .u32 0] from (by (repeat (first | with_reducible exact Crw2.out | (with_reducible refine Cs.new ?_; focus (first | rfl | (simp; done) | omega)) | with_reducible refine Cs.alloc ?_ _ | with_reducible refine Cs.drew ?_ | with_reducible refine Cs.drewN ?_ _ | (with_reducible refine Cs.other ?_ ?_ _; focus (first | omega | (simp; omega))) | with_reducible apply Cs.put)) <;> first | rfl | (simp; done))).after hb)
  have Cxw3 : Hid (Cs w3 (w1.heap.size) [.int .u32 p1, .int .u32 q1, .int .u32 r1]) := Lib.hid ((show Cs _ (w1.heap.size) [.int .u32 p1, .int .u32 q1, .int .u32 r1] from (by (repeat (first | with_reducible exact Cxw2.out | (with_reducible refine Cs.new ?_; focus (first | rfl | (simp; done) | omega)) | with_reducible refine Cs.alloc ?_ _ | with_reducible refine Cs.drew ?_ | with_reducible refine Cs.drewN ?_ _ | (with_reducible refine Cs.other ?_ ?_ _; focus (first | omega | (simp; omega))) | with_reducible apply Cs.put)) <;> first | rfl | (simp; done))).after hb)
  have Cfw3 : Hid (Cs w3 (w2.heap.size) [.int .i64 21, .int .i64 (am : Int)]) := Lib.hid ((show Cs _ (w2.heap.size) [.int .i64 21, .int .i64 (am : Int)] from (by (repeat (first | with_reducible exact Cfw2.out | (with_reducible refine Cs.new ?_; focus (first | rfl | (simp; done) | omega)) | with_reducible refine Cs.alloc ?_ _ | with_reducible refine Cs.drew ?_ | with_reducible refine Cs.drewN ?_ _ | (with_reducible refine Cs.other ?_ ?_ _; focus (first | omega | (simp; omega))) | with_reducible apply Cs.put)) <;> first | rfl | (simp; done))).after hb)
  clear xw2g0 xw2f0 xw2g1 xw2f1 xw2g2 xw2f2 fw2g0 fw2g1 hb
  have lrw3 := Crw3.out.1
  have lxw3 := Cxw3.out.1
  have xw3g0 := (Cxw3.out.at 0 rfl).1
  have xw3f0 := (Cxw3.out.at 0 rfl).2
  have xw3g1 := (Cxw3.out.at 1 rfl).1
  have xw3f1 := (Cxw3.out.at 1 rfl).2
  have xw3g2 := (Cxw3.out.at 2 rfl).1
  have xw3f2 := (Cxw3.out.at 2 rfl).2
  have lfw3 := Cfw3.out.1
  have fw3g0 := (Cfw3.out.at 0 rfl).1
  have fw3g1 := (Cfw3.out.at 1 rfl).1
  go_wp2_with (fail)
  rw [rounds_succ]
  go_wp2_with (fail)
  go_at_call 79
  refine (P3.out _).mono ?_
  rintro e w4 ⟨rfl, hb⟩
  have hwz4 := hb.size
  try simp at hwz4
  have HBw4 : Hid (Below w.heap.size w w4) := Lib.hid (below_then' (by repeat (first | with_reducible exact HBw3.out | with_reducible refine blw_alloc ?_ _ | with_reducible refine Below.drew ?_ | with_reducible refine blw_step ?_ _ | with_reducible refine Below.setCell (p := ⟨_, _, none⟩) ?_ (by first | exact Nat.le_refl _ | (simp; done) | (simp; omega) | omega) _)) hb)
  have Crw4 : Hid (Cs w4 (w.heap.size + 1) [.int .u32 0, .int .u32 0, .int .u32 0]) := Lib.hid ((show Cs _ (w.heap.size + 1) [.int .u32 0, .int .u32 0, .int .u32 0] from (by (repeat (first | with_reducible exact Crw3.out | (with_reducible refine Cs.new ?_; focus (first | rfl | (simp; done) | omega)) | with_reducible refine Cs.alloc ?_ _ | with_reducible refine Cs.drew ?_ | with_reducible refine Cs.drewN ?_ _ | (with_reducible refine Cs.other ?_ ?_ _; focus (first | omega | (simp; omega))) | with_reducible apply Cs.put)) <;> first | rfl | (simp; done))).after hb)
  have Cxw4 : Hid (Cs w4 (w1.heap.size) [.int .u32 p2, .int .u32 q2, .int .u32 r2]) := Lib.hid ((show Cs _ (w1.heap.size) [.int .u32 p2, .int .u32 q2, .int .u32 r2] from (by (repeat (first | with_reducible exact Cxw3.out | (with_reducible refine Cs.new ?_; focus (first | rfl | (simp; done) | omega)) | with_reducible refine Cs.alloc ?_ _ | with_reducible refine Cs.drew ?_ | with_reducible refine Cs.drewN ?_ _ | (with_reducible refine Cs.other ?_ ?_ _; focus (first | omega | (simp; omega))) | with_reducible apply Cs.put)) <;> first | rfl | (simp; done))).after hb)
  have Cfw4 : Hid (Cs w4 (w3.heap.size) [.int .i64 20, .int .i64 (id : Int)]) := Lib.hid ((show Cs _ (w3.heap.size) [.int .i64 20, .int .i64 (id : Int)] from (by (repeat (first | with_reducible exact Cfw3.out | (with_reducible refine Cs.new ?_; focus (first | rfl | (simp; done) | omega)) | with_reducible refine Cs.alloc ?_ _ | with_reducible refine Cs.drew ?_ | with_reducible refine Cs.drewN ?_ _ | (with_reducible refine Cs.other ?_ ?_ _; focus (first | omega | (simp; omega))) | with_reducible apply Cs.put)) <;> first | rfl | (simp; done))).after hb)
  clear xw3g0 xw3f0 xw3g1 xw3f1 xw3g2 xw3f2 fw3g0 fw3g1 hb
  have lrw4 := Crw4.out.1
  have lxw4 := Cxw4.out.1
  have xw4g0 := (Cxw4.out.at 0 rfl).1
  have xw4f0 := (Cxw4.out.at 0 rfl).2
  have xw4g1 := (Cxw4.out.at 1 rfl).1
  have xw4f1 := (Cxw4.out.at 1 rfl).2
  have xw4g2 := (Cxw4.out.at 2 rfl).1
  have xw4f2 := (Cxw4.out.at 2 rfl).2
  have lfw4 := Cfw4.out.1
  have fw4g0 := (Cfw4.out.at 0 rfl).1
  have fw4g1 := (Cfw4.out.at 1 rfl).1
  go_wp2_with (fail)
  rw [rounds_succ]
  go_wp2_with (fail)
  go_at_call 79
  refine (P4.out _).mono ?_
  rintro e w5 ⟨rfl, hb⟩
  have hwz5 := hb.size
  try simp at hwz5
  have HBw5 : Hid (Below w.heap.size w w5) := Lib.hid (below_then' (by repeat (first | with_reducible exact HBw4.out | with_reducible refine blw_alloc ?_ _ | with_reducible refine Below.drew ?_ | with_reducible refine blw_step ?_ _ | with_reducible refine Below.setCell (p := ⟨_, _, none⟩) ?_ (by first | exact Nat.le_refl _ | (simp; done) | (simp; omega) | omega) _)) hb)
  have Crw5 : Hid (Cs w5 (w.heap.size + 1) [.int .u32 0, .int .u32 0, .int .u32 0]) := Lib.hid ((show Cs _ (w.heap.size + 1) [.int .u32 0, .int .u32 0, .int .u32 0] from (by (repeat (first | with_reducible exact Crw4.out | (with_reducible refine Cs.new ?_; focus (first | rfl | (simp; done) | omega)) | with_reducible refine Cs.alloc ?_ _ | with_reducible refine Cs.drew ?_ | with_reducible refine Cs.drewN ?_ _ | (with_reducible refine Cs.other ?_ ?_ _; focus (first | omega | (simp; omega))) | with_reducible apply Cs.put)) <;> first | rfl | (simp; done))).after hb)
  have Cxw5 : Hid (Cs w5 (w1.heap.size) [.int .u32 p3, .int .u32 q3, .int .u32 r3]) := Lib.hid ((show Cs _ (w1.heap.size) [.int .u32 p3, .int .u32 q3, .int .u32 r3] from (by (repeat (first | with_reducible exact Cxw4.out | (with_reducible refine Cs.new ?_; focus (first | rfl | (simp; done) | omega)) | with_reducible refine Cs.alloc ?_ _ | with_reducible refine Cs.drew ?_ | with_reducible refine Cs.drewN ?_ _ | (with_reducible refine Cs.other ?_ ?_ _; focus (first | omega | (simp; omega))) | with_reducible apply Cs.put)) <;> first | rfl | (simp; done))).after hb)
  have Cfw5 : Hid (Cs w5 (w4.heap.size) [.int .i64 2, .int .i64 (cl : Int)]) := Lib.hid ((show Cs _ (w4.heap.size) [.int .i64 2, .int .i64 (cl : Int)] from (by (repeat (first | with_reducible exact Cfw4.out | (with_reducible refine Cs.new ?_; focus (first | rfl | (simp; done) | omega)) | with_reducible refine Cs.alloc ?_ _ | with_reducible refine Cs.drew ?_ | with_reducible refine Cs.drewN ?_ _ | (with_reducible refine Cs.other ?_ ?_ _; focus (first | omega | (simp; omega))) | with_reducible apply Cs.put)) <;> first | rfl | (simp; done))).after hb)
  clear xw4g0 xw4f0 xw4g1 xw4f1 xw4g2 xw4f2 fw4g0 fw4g1 hb
  have lrw5 := Crw5.out.1
  have lxw5 := Cxw5.out.1
  have xw5g0 := (Cxw5.out.at 0 rfl).1
  have xw5f0 := (Cxw5.out.at 0 rfl).2
  have xw5g1 := (Cxw5.out.at 1 rfl).1
  have xw5f1 := (Cxw5.out.at 1 rfl).2
  have xw5g2 := (Cxw5.out.at 2 rfl).1
  have xw5f2 := (Cxw5.out.at 2 rfl).2
  have lfw5 := Cfw5.out.1
  have fw5g0 := (Cfw5.out.at 0 rfl).1
  have fw5g1 := (Cfw5.out.at 1 rfl).1
  go_wp2_with (fail)
  rw [rounds_succ]
  go_wp2_with (fail)
  go_at_call 80
  refine (PT.out _).mono ?_
  rintro e w6 ⟨rfl, hb⟩
  have hwz6 := hb.size
  try simp at hwz6
  have HBw6 : Hid (Below w.heap.size w w6) := Lib.hid (below_then' (by repeat (first | with_reducible exact HBw5.out | with_reducible refine blw_alloc ?_ _ | with_reducible refine Below.drew ?_ | with_reducible refine blw_step ?_ _ | with_reducible refine Below.setCell (p := ⟨_, _, none⟩) ?_ (by first | exact Nat.le_refl _ | (simp; done) | (simp; omega) | omega) _)) hb)
  have Crw6 : Hid (Cs w6 (w.heap.size + 1) [.int .u32 0, .int .u32 0, .int .u32 0]) := Lib.hid ((show Cs _ (w.heap.size + 1) [.int .u32 0, .int .u32 0, .int .u32 0] from (by (repeat (first | with_reducible exact Crw5.out | (with_reducible refine Cs.new ?_; focus (first | rfl | (simp; done) | omega)) | with_reducible refine Cs.alloc ?_ _ | with_reducible refine Cs.drew ?_ | with_reducible refine Cs.drewN ?_ _ | (with_reducible refine Cs.other ?_ ?_ _; focus (first | omega | (simp; omega))) | with_reducible apply Cs.put)) <;> first | rfl | (simp; done))).after hb)
  have Cxw6 : Hid (Cs w6 (w1.heap.size) [.int .u32 p4, .int .u32 q4, .int .u32 r4]) := Lib.hid ((show Cs _ (w1.heap.size) [.int .u32 p4, .int .u32 q4, .int .u32 r4] from (by (repeat (first | with_reducible exact Cxw5.out | (with_reducible refine Cs.new ?_; focus (first | rfl | (simp; done) | omega)) | with_reducible refine Cs.alloc ?_ _ | with_reducible refine Cs.drew ?_ | with_reducible refine Cs.drewN ?_ _ | (with_reducible refine Cs.other ?_ ?_ _; focus (first | omega | (simp; omega))) | with_reducible apply Cs.put)) <;> first | rfl | (simp; done))).after hb)
  clear xw5g0 xw5f0 xw5g1 xw5f1 xw5g2 xw5f2 fw5g0 fw5g1 hb
  have lrw6 := Crw6.out.1
  have rw6g0 := (Crw6.out.at 0 rfl).1
  have rw6f0 := (Crw6.out.at 0 rfl).2
  have rw6g1 := (Crw6.out.at 1 rfl).1
  have rw6f1 := (Crw6.out.at 1 rfl).2
  have rw6g2 := (Crw6.out.at 2 rfl).1
  have rw6f2 := (Crw6.out.at 2 rfl).2
  have lxw6 := Cxw6.out.1
  have xw6g0 := (Cxw6.out.at 0 rfl).1
  have xw6f0 := (Cxw6.out.at 0 rfl).2
  have xw6g1 := (Cxw6.out.at 1 rfl).1
  have xw6f1 := (Cxw6.out.at 1 rfl).2
  have xw6g2 := (Cxw6.out.at 2 rfl).1
  have xw6f2 := (Cxw6.out.at 2 rfl).2
  go_wp2_with fail
  refine bodyPost_ret (v := .tuple #[.agg #[.int .u32 p5, .int .u32 q5, .int .u32 r5], .int .i64 0]) (by simp [results, Tryd.results36, go_sem, rw6g0, rw6g1, rw6g2, rw6f0, rw6f1, rw6f2]) rfl ⟨rfl, ?_⟩
  exact (((((HBw6.out.setCell (p := ⟨w1.heap.size, 0, none⟩) (by simp; omega) _).setCell (p := ⟨w1.heap.size, 1, none⟩) (by simp; omega) _).setCell (p := ⟨w1.heap.size, 2, none⟩) (by simp; omega) _).setCell (p := ⟨w.heap.size + 1, 0, none⟩) (by simp) _).setCell (p := ⟨w.heap.size + 1, 1, none⟩) (by simp) _).setCell (p := ⟨w.heap.size + 1, 2, none⟩) (by simp) _
end Go.Proofs.YtccjcdecpgigpaaDoor.Tok
