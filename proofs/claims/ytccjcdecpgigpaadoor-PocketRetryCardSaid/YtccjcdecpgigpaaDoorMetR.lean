/- meter.Read at a slice of words; what Words and Read make of each other; opening a meter. -/
import Derived.Test.YtccjcdecpgigpaaDoorMetW
import Derived.Test.YtccjcdecpgigpaaDoorOpenS
namespace Go.Proofs.YtccjcdecpgigpaaDoor.Met
open Go.RowKit Go.Proofs.YtccjcdecpgigpaaDoor.Base Go.Proofs.YtccjcdecpgigpaaDoor.Win Go.Proofs.YtccjcdecpgigpaaDoor.Cell
set_option linter.unusedVariables false
set_option linter.unusedSimpArgs false
set_option maxRecDepth 20000
theorem read_any (a b c d e : UInt32) (A : Option Addr) (cap : Nat) (w : World) (hr : RdE 1 encW w A [a, b, c, d, e]) :
    Calls Tryd.prog 56 #[.slice A 5 cap] w fun e' w' => e' = .returned (.tuple #[.agg (readR a.toNat b.toNat c.toNat d.toNat e.toNat).1.vals, .int .i64 (readR a.toNat b.toNat c.toNat d.toNat e.toNat).2]) ∧ Below w.heap.size w w' := by
  obtain ⟨ad, rfl, h0⟩ := hr.at1 0 (by simp) _ rfl
  obtain ⟨_, e1, h1⟩ := hr.at1 1 (by simp) _ rfl
  cases e1
  obtain ⟨_, e1, h2⟩ := hr.at1 2 (by simp) _ rfl
  cases e1
  obtain ⟨_, e1, h3⟩ := hr.at1 3 (by simp) _ rfl
  cases e1
  obtain ⟨_, e1, h4⟩ := hr.at1 4 (by simp) _ rfl
  cases e1
  simp only [List.getElem_cons_zero, List.getElem_cons_succ] at h0 h1 h2 h3 h4
  rw [show ad.add 0 = ad from rfl] at h0
  rw [add_pos] at h1 h2 h3 h4
  exact readN_any _ _ _ _ _ ad cap w a.toNat_lt b.toNat_lt c.toNat_lt d.toNat_lt e.toNat_lt h0 h1 h2 h3 h4
theorem read_size (n : Nat) (A : Option Addr) (cap : Nat) (w : World) (hn : n ≠ 5) (hl : n ≤ 9223372036854775807) :
    Calls Tryd.prog 56 #[.slice A n cap] w fun e' w' => e' = .returned (.tuple #[.agg zeroM.vals, .int .i64 1]) ∧ Below w.heap.size w w' := by
  have e1 : ((n : Int) != 5) = true := bne_iff_ne.mpr (by omega)
  have e2 : (n != 5) = true := bne_iff_ne.mpr hn
  have HN := Lib.hid hn
  clear hn
  go_enter Tryd.func56, Tryd.ntmps56
  go_wp2
  refine bodyPost_ret (v := .tuple #[.agg zeroM.vals, .int .i64 1]) (by simp [results, Tryd.results56, go_sem, Mt.vals, zeroM]) rfl ⟨rfl, ?_⟩
  repeat (first | with_reducible exact blw_alloc (Below.refl _ _) _ | refine Below.setCell ?_ (by first | exact Nat.le_refl _ | exact Nat.le_succ _) _)
theorem u32_id (x : UInt32) : u32 x.toNat = x := UInt32.ofNat_toNat
/-- Words and back. -/
theorem read_words (m : Mt) (ok : m.ok) (hm : mmay m = true) : readN (u32 m.cr.toNat).toNat (u32 (flagsN m)).toNat (u32 m.wh.toNat).toNat (u32 (m.wb % 4294967296)).toNat (u32 (m.wb / 4294967296)).toNat = m := by
  unfold mmay at hm
  simp only [Bool.and_eq_true, decide_eq_true_eq] at hm
  obtain ⟨hc1, hc2, hwm⟩ := hm
  obtain ⟨q0, q1⟩ := wmay_bd hwm
  have wl := ok.2.1.2
  obtain ⟨⟨a0, a1⟩, ⟨b0, b1⟩, c0, c1⟩ := hc1
  obtain ⟨⟨d0, d1⟩, ⟨e0, e1⟩, hbl⟩ := hc2
  have hw2 : flagsN m < 4294967296 := by unfold flagsN; omega
  rw [u32_nat _ (by omega), u32_nat _ hw2, u32_nat _ (by omega), u32_nat _ (by omega), u32_nat _ (by omega)]
  have hf : (flagsN m : Int) = m.lock * 16777216 + m.bad * 65536 + m.rev * 256 + m.me := by unfold flagsN; omega
  unfold readN
  rw [hf]
  obtain ⟨me, rev, cr, wh, wb, bad, lock⟩ := m
  simp only at *
  simp only [Mt.mk.injEq]
  refine ⟨?_, ?_, ?_, ?_, ?_, ?_, ?_⟩ <;> omega
/-- Read and back. -/
theorem words_read (a b c d e : UInt32) (hm : mmay (readN a.toNat b.toNat c.toNat d.toNat e.toNat) = true) : wordsL (readN a.toNat b.toNat c.toNat d.toNat e.toNat) = [a, b, c, d, e] := by
  have ha := a.toNat_lt
  have hb := b.toNat_lt
  have hc := c.toNat_lt
  have hd := d.toNat_lt
  have he := e.toNat_lt
  unfold wordsL
  have h1 : (readN a.toNat b.toNat c.toNat d.toNat e.toNat).cr.toNat = a.toNat := by unfold readN; simp only; omega
  have h2 : flagsN (readN a.toNat b.toNat c.toNat d.toNat e.toNat) = b.toNat := by unfold readN flagsN; simp only; omega
  have h3 : (readN a.toNat b.toNat c.toNat d.toNat e.toNat).wh.toNat = c.toNat := by unfold readN; simp only; omega
  have h4 : (readN a.toNat b.toNat c.toNat d.toNat e.toNat).wb % 4294967296 = d.toNat := by unfold readN; simp only; omega
  have h5 : (readN a.toNat b.toNat c.toNat d.toNat e.toNat).wb / 4294967296 = e.toNat := by unfold readN; simp only; omega
  rw [h1, h2, h3, h4, h5, u32_id, u32_id, u32_id, u32_id, u32_id]
open Go.ChangeShapes Go.WideShapes Go.ChangeAt in
theorem opens_win {H : Type} {enc : TypeId × Value → H} {W : World} : Open.Opens enc Tryd.prog W 38 (fun (x : Int × Nat) cs => cs = [.int .i64 x.1, .int .u64 (x.2 : Int)] ∧ i64 x.1 ∧ x.2 < 18446744073709551616) := by
  refine Open.opens_struct Tryd.underlying38 fun cs hl hf => ?_
  rw [show Tryd.prog.cellsOf 38 = 2 by kernel_rfl] at hl
  match cs, hl with
  | [c0, c1], _ =>
    obtain ⟨x0, e0, f0⟩ := Open.fld hf 0 rfl 0 1 rfl rfl (by kernel_rfl) (Open.opens_int Tryd.underlying3)
    obtain ⟨x1, e1, f1⟩ := Open.fld hf 1 rfl 1 1 rfl rfl (by kernel_rfl) (Open.opens_int Tryd.underlying36)
    simp at e0 e1
    subst e0 e1
    simp [Lit.wf, IntKind.min, IntKind.max, IntKind.bits, IntKind.signed] at f1
    exact ⟨(x0, x1.toNat), by rw [show ((x1.toNat : Nat) : Int) = x1 by omega], i64_bound f0, by show x1.toNat < _; omega⟩
open Go.ChangeShapes Go.WideShapes Go.ChangeAt in
theorem opens_mt {H : Type} {enc : TypeId × Value → H} {W : World} : Open.Opens enc Tryd.prog W 40 (fun (m : Mt) cs => cs = m.vals.toList ∧ m.ok) := by
  refine Open.opens_struct Tryd.underlying40 fun cs hl hf => ?_
  rw [show Tryd.prog.cellsOf 40 = 7 by kernel_rfl] at hl
  match cs, hl with
  | [c0, c1, c2, c3, c4, c5, c6], _ =>
    obtain ⟨x0, e0, f0⟩ := Open.fld hf 0 rfl 0 1 rfl rfl (by kernel_rfl) (Open.opens_int Tryd.underlying3)
    obtain ⟨x1, e1, f1⟩ := Open.fld hf 1 rfl 1 1 rfl rfl (by kernel_rfl) (Open.opens_int Tryd.underlying3)
    obtain ⟨x2, e2, f2⟩ := Open.fld hf 2 rfl 2 1 rfl rfl (by kernel_rfl) (Open.opens_int Tryd.underlying3)
    obtain ⟨x3, e3, f3, f3'⟩ := Open.fld hf 3 rfl 3 2 rfl rfl (by kernel_rfl) opens_win
    obtain ⟨x4, e4, f4⟩ := Open.fld hf 4 rfl 5 1 rfl rfl (by kernel_rfl) (Open.opens_int Tryd.underlying3)
    obtain ⟨x5, e5, f5⟩ := Open.fld hf 5 rfl 6 1 rfl rfl (by kernel_rfl) (Open.opens_int Tryd.underlying3)
    simp at e0 e1 e2 e3 e4 e5
    obtain ⟨e30, e31⟩ := e3
    subst e0 e1 e2 e30 e31 e4 e5
    exact ⟨⟨x0, x1, x2, x3.1, x3.2, x4, x5⟩, rfl, ⟨i64_bound f0, i64_bound f1, i64_bound f2⟩, ⟨f3, f3'⟩, i64_bound f4, i64_bound f5⟩
end Go.Proofs.YtccjcdecpgigpaaDoor.Met
