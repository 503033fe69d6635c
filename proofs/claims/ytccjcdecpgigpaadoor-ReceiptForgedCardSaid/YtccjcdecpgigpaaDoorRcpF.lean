/- A receipt in raw numbers: opening, slip; Check and Show where the amounts do not add up. -/
import Derived.Test.YtccjcdecpgigpaaDoorTokO
import Derived.Test.YtccjcdecpgigpaaDoorTok3
import Derived.Test.YtccjcdecpgigpaaDoorMade
import Derived.Test.YtccjcdecpgigpaaDoorCs
import Derived.Deep.RegionHeld3
namespace Go.Proofs.YtccjcdecpgigpaaDoor.Rcf
open Go.RowKit Go.Proofs.YtccjcdecpgigpaaDoor.Base Go.Proofs.YtccjcdecpgigpaaDoor.Tok
set_option linter.unusedVariables false
set_option linter.unusedSimpArgs false
set_option maxRecDepth 20000
structure Sl where
  me : Int
  t : Tk
  de : Int
  fe : Int
  pr : Int
  ch : Int
def i64 (n : Int) : Prop := -9223372036854775808 ≤ n ∧ n ≤ 9223372036854775807
def Sl.ok (x : Sl) : Prop := i64 x.me ∧ x.t.ok ∧ (i64 x.de ∧ i64 x.fe) ∧ i64 x.pr ∧ i64 x.ch
def Sl.cs (x : Sl) : List Value := [.int .i64 x.me, .int .i64 x.t.cl, .int .i64 x.t.id, .int .i64 x.t.am, .int .i64 x.t.tag, .int .i64 x.de, .int .i64 x.fe, .int .i64 x.pr, .int .i64 x.ch]
open Go.ChangeShapes Go.WideShapes Go.ChangeAt in
theorem opens_slip {H : Type} {enc : TypeId × Value → H} {W : World} : Open.Opens enc Tryd.prog W 71 (fun (x : Sl) cs => cs = x.cs ∧ x.ok) := by
  refine Open.opens_struct Tryd.underlying71 fun cs hl hf => ?_
  rw [show Tryd.prog.cellsOf 71 = 9 by kernel_rfl] at hl
  match cs, hl with
  | [c0, c1, c2, c3, c4, c5, c6, c7, c8], _ =>
    obtain ⟨x0, e0, f0⟩ := Open.fld hf 0 rfl 0 1 rfl rfl (by kernel_rfl) (Open.opens_int Tryd.underlying3)
    obtain ⟨x1, e1, f1⟩ := Open.fld hf 1 rfl 1 4 rfl rfl (by kernel_rfl) (TokO.opens_raw)
    obtain ⟨x2, e2, f2⟩ := Open.fld hf 2 rfl 5 1 rfl rfl (by kernel_rfl) (Open.opens_int Tryd.underlying3)
    obtain ⟨x3, e3, f3⟩ := Open.fld hf 3 rfl 6 1 rfl rfl (by kernel_rfl) (Open.opens_int Tryd.underlying3)
    obtain ⟨x4, e4, f4⟩ := Open.fld hf 4 rfl 7 1 rfl rfl (by kernel_rfl) (Open.opens_int Tryd.underlying3)
    obtain ⟨x5, e5, f5⟩ := Open.fld hf 5 rfl 8 1 rfl rfl (by kernel_rfl) (Open.opens_int Tryd.underlying3)
    unfold Tk.vals at e1
    simp at e0 e1 e2 e3 e4 e5
    obtain ⟨g0, g1, g2, g3⟩ := e1
    subst e0 g0 g1 g2 g3 e2 e3 e4 e5
    exact ⟨⟨x0, x1, x2, x3, x4, x5⟩, rfl, i64_bound f0, f1, ⟨i64_bound f2, i64_bound f3⟩, i64_bound f4, i64_bound f5⟩
/-- A receipt. -/
structure Rc where
  me : Int
  id : Int
  te : Int
  de : Int
  fe : Int
  pr : Int
  ch : Int
  un : Int
  tok : ByteArray
def Rc.vals (r : Rc) : Array Value := #[.int .i64 r.me, .int .i64 r.id, .int .i64 r.te, .int .i64 r.de, .int .i64 r.fe, .int .i64 r.pr, .int .i64 r.ch, .int .i64 r.un, .string r.tok]
def slipR (x : Sl) : Rc := ⟨pk x.me 50, (madeT x.t).id, pk x.de 20000000 + pk x.fe 20000000 + pk x.pr 20000000 + pk x.ch 20000000, pk x.de 20000000, pk x.fe 20000000, pk x.pr 20000000, pk x.ch 20000000, if (madeT x.t).cl = 0 then (madeT x.t).am else 0, fmtS (madeT x.t)⟩
/-- All numbers lie within their bounds, but the amounts do not add up. -/
def Rc.lim (r : Rc) : Prop := (0 ≤ r.me ∧ r.me < 50) ∧ (1 ≤ r.id ∧ r.id ≤ 1048575) ∧ (0 ≤ r.te ∧ r.te ≤ 100000000) ∧ (0 ≤ r.de ∧ r.de ≤ 100000000) ∧ (0 ≤ r.fe ∧ r.fe ≤ 100000000) ∧ (0 ≤ r.pr ∧ r.pr ≤ 100000000) ∧ (0 ≤ r.ch ∧ r.ch ≤ 100000000) ∧ 0 ≤ r.un ∧ r.un ≤ 2097151
def amt (r : Rc) (k : Nat) : Int := match k with | 0 => r.te | 1 => r.de | 2 => r.fe | 3 => r.pr | _ => r.ch
theorem amt_lim (r : Rc) (h : r.lim) (k : Nat) : 0 ≤ amt r k ∧ amt r k ≤ 100000000 := by
  obtain ⟨_, _, h1, h2, h3, h4, h5, _⟩ := h
  match k with
  | 0 => exact h1
  | 1 => exact h2
  | 2 => exact h3
  | 3 => exact h4
  | k + 4 => exact h5
theorem index_amt (te de fe pr ch : Int) (me id un : Int) (tok : ByteArray) (k : Nat) (hk : k < 5) (w : World) : (Instr.index 144 (.agg #[.int .i64 te, .int .i64 de, .int .i64 fe, .int .i64 pr, .int .i64 ch]) (.int .i64 (k : Int))).run Tryd.prog w = .ok (.int .i64 (amt ⟨me, id, te, de, fe, pr, ch, un, tok⟩ k)) w := by
  match k, hk with
  | 0, _ => simp [Instr.index, go_sem, amt]
  | 1, _ => simp [Instr.index, go_sem, amt]
  | 2, _ => simp [Instr.index, go_sem, amt]
  | 3, _ => simp [Instr.index, go_sem, amt]
  | 4, _ => simp [Instr.index, go_sem, amt]
set_option maxHeartbeats 4000000 in
theorem Check_tender (r : Rc) (w : World) (hl : r.lim) (hne : (r.te != r.de + r.fe + r.pr + r.ch) = true) :
    Calls Tryd.prog 30 #[.agg r.vals] w fun e w' => e = .returned (.int .i64 19) ∧ Below w.heap.size w w' := by
  have HA := Lib.hid (amt_lim r hl)
  obtain ⟨me, id, te, de, fe, pr, ch, un, tok⟩ := r
  obtain ⟨⟨a0, a1⟩, ⟨b0, b1⟩, ⟨c0, c1⟩, ⟨d0, d1⟩, ⟨e0, e1⟩, ⟨f0, f1⟩, ⟨g0, g1⟩, h0, h1⟩ := hl
  have HX := Lib.hid (fun k hk W => index_amt te de fe pr ch me id un tok k hk W)
  unfold Rc.vals
  simp only at *
  generalize amt ⟨me, id, te, de, fe, pr, ch, un, tok⟩ = am at *
  go_enter Tryd.func30, Tryd.ntmps30
  go_wp2_with fail
  go_loop [5, 30] (fun n i => ∃ k : Nat, k ≤ 5 ∧ i = .int .i64 k) (fun _ i => 5 - (intOf i).toNat)
  case atStart => exact ⟨0, by omega, rfl⟩
  case round =>
    obtain ⟨k, hk, rfl⟩ := hrel
    by_cases hlt : k < 5
    · have hix := HX.out k hlt
      obtain ⟨m0, m1⟩ := HA.out k
      go_wp2
      go_round
      case rel => exact ⟨k + 1, by omega, by go_num⟩
      case measure => simp [intOf]; omega
    · go_wp2
      go_ret
      exact ⟨rfl, blw_alloc (blw_alloc (Below.refl _ _) _) _⟩
set_option maxHeartbeats 4000000 in
theorem Show_tender (r : Rc) (w : World) (hl : r.lim) (hne : (r.te != r.de + r.fe + r.pr + r.ch) = true) :
    Calls Tryd.prog 31 #[.agg r.vals] w fun e w' => e = .returned (.tuple #[.string ⟨#[]⟩, .int .i64 19]) ∧ Below w.heap.size w w' := by
  have HC := Lib.hid (fun W => Check_tender r W hl hne)
  obtain ⟨me, id, te, de, fe, pr, ch, un, tok⟩ := r
  unfold Rc.vals at *
  simp only at HC ⊢
  clear hl hne
  go_enter Tryd.func31, Tryd.ntmps31
  go_wp2_with fail
  go_at_call 30
  refine (HC.out _).mono ?_
  rintro e w1 ⟨rfl, hb⟩
  have HB1 : Hid (Below w.heap.size w w1) := Lib.hid (below_then' (blw_alloc (Below.refl _ _) _) hb)
  clear hb
  go_wp2_with fail
  go_ret2
  exact ⟨rfl, HB1.out⟩
set_option maxHeartbeats 8000000 in
theorem slip_any (x : Sl) (w : World) (hx : x.ok) :
    Calls Tryd.prog 29 #[.agg x.cs.toArray] w fun e w' => e = .returned (.tuple #[.agg (slipR x).vals, .bool true]) ∧ Below w.heap.size w w' := by
  obtain ⟨⟨a0, a1⟩, hto, ⟨⟨b0, b1⟩, ⟨c0, c1⟩⟩, ⟨d0, d1⟩, e0, e1⟩ := hx
  have HM := Lib.hid (fun W => made_any x.t W hto)
  have hg := made_good x.t
  have HF := Lib.hid (fun W => format_yes (madeT x.t) hg W)
  obtain ⟨y0, y1⟩ := pk_bound x.de 20000000 (by decide)
  obtain ⟨y2, y3⟩ := pk_bound x.fe 20000000 (by decide)
  obtain ⟨y4, y5⟩ := pk_bound x.pr 20000000 (by decide)
  obtain ⟨y6, y7⟩ := pk_bound x.ch 20000000 (by decide)
  unfold slipR
  generalize madeT x.t = T at *
  generalize fmtS T = S at *
  obtain ⟨xme, ⟨xcl, xid, xam, xtag⟩, xde, xfe, xpr, xch⟩ := x
  obtain ⟨cl, id, am, tag⟩ := T
  unfold Sl.cs Rc.vals
  unfold Tk.vals at HM HF
  simp only at *
  obtain ⟨un, hun⟩ : ∃ un, un = if cl = 0 then am else 0 := ⟨_, rfl⟩
  rw [← hun]
  have HUN := Lib.hid hun
  clear hg hto hun
  go_enter Tryd.func29, Tryd.ntmps29
  go_wp2_with (fail)
  go_at_call 15
  refine (HM.out _).mono ?_
  rintro e w1 ⟨rfl, hb⟩
  have hwz1 := hb.size
  try simp at hwz1
  have HBw1 : Hid (Below w.heap.size w w1) := Lib.hid (below_then' (by repeat (first | with_reducible exact Below.refl _ _ | with_reducible refine blw_alloc ?_ _ | with_reducible refine Below.drew ?_ | with_reducible refine blw_step ?_ _ | with_reducible refine Below.setCell (p := ⟨_, _, none⟩) ?_ (by first | exact Nat.le_refl _ | (simp; done) | (simp; omega) | omega) _)) hb)
  have Cxw1 : Hid (Cs w1 (w.heap.size) [.int .i64 xme, .int .i64 xcl, .int .i64 xid, .int .i64 xam, .int .i64 xtag, .int .i64 xde, .int .i64 xfe, .int .i64 xpr, .int .i64 xch]) := Lib.hid ((show Cs _ (w.heap.size) [.int .i64 xme, .int .i64 xcl, .int .i64 xid, .int .i64 xam, .int .i64 xtag, .int .i64 xde, .int .i64 xfe, .int .i64 xpr, .int .i64 xch] from (by (repeat (first | (with_reducible refine Cs.new ?_; focus (first | rfl | (simp; done) | omega)) | with_reducible refine Cs.alloc ?_ _ | with_reducible refine Cs.drew ?_ | with_reducible refine Cs.drewN ?_ _ | (with_reducible refine Cs.other ?_ ?_ _; focus (first | omega | (simp; omega))) | with_reducible apply Cs.put)) <;> first | rfl | (simp; done))).after hb)
  have Crw1 : Hid (Cs w1 (w.heap.size + 1) [.int .i64 0, .int .i64 0, .int .i64 0, .int .i64 0, .int .i64 0, .int .i64 0, .int .i64 0, .int .i64 0, .string ⟨#[]⟩]) := Lib.hid ((show Cs _ (w.heap.size + 1) [.int .i64 0, .int .i64 0, .int .i64 0, .int .i64 0, .int .i64 0, .int .i64 0, .int .i64 0, .int .i64 0, .string ⟨#[]⟩] from (by (repeat (first | (with_reducible refine Cs.new ?_; focus (first | rfl | (simp; done) | omega)) | with_reducible refine Cs.alloc ?_ _ | with_reducible refine Cs.drew ?_ | with_reducible refine Cs.drewN ?_ _ | (with_reducible refine Cs.other ?_ ?_ _; focus (first | omega | (simp; omega))) | with_reducible apply Cs.put)) <;> first | rfl | (simp; done))).after hb)
  clear hb
  have lxw1 := Cxw1.out.1
  have lrw1 := Crw1.out.1
  have hs1 := HBw1.out.size
  go_wp2_with (fail)
  go_at_call 14
  refine (HF.out _).mono ?_
  rintro e w2 ⟨rfl, hb⟩
  have hwz2 := hb.size
  try simp at hwz2
  have HBw2 : Hid (Below w.heap.size w w2) := Lib.hid (below_then' (by repeat (first | with_reducible exact HBw1.out | with_reducible refine blw_alloc ?_ _ | with_reducible refine Below.drew ?_ | with_reducible refine blw_step ?_ _ | with_reducible refine Below.setCell (p := ⟨_, _, none⟩) ?_ (by first | exact Nat.le_refl _ | (simp; done) | (simp; omega) | omega) _)) hb)
  have Cxw2 : Hid (Cs w2 (w.heap.size) [.int .i64 xme, .int .i64 xcl, .int .i64 xid, .int .i64 xam, .int .i64 xtag, .int .i64 xde, .int .i64 xfe, .int .i64 xpr, .int .i64 xch]) := Lib.hid ((show Cs _ (w.heap.size) [.int .i64 xme, .int .i64 xcl, .int .i64 xid, .int .i64 xam, .int .i64 xtag, .int .i64 xde, .int .i64 xfe, .int .i64 xpr, .int .i64 xch] from (by (repeat (first | with_reducible exact Cxw1.out | (with_reducible refine Cs.new ?_; focus (first | rfl | (simp; done) | omega)) | with_reducible refine Cs.alloc ?_ _ | with_reducible refine Cs.drew ?_ | with_reducible refine Cs.drewN ?_ _ | (with_reducible refine Cs.other ?_ ?_ _; focus (first | omega | (simp; omega))) | with_reducible apply Cs.put)) <;> first | rfl | (simp; done))).after hb)
  have Crw2 : Hid (Cs w2 (w.heap.size + 1) [.int .i64 0, .int .i64 0, .int .i64 0, .int .i64 0, .int .i64 0, .int .i64 0, .int .i64 0, .int .i64 0, .string ⟨#[]⟩]) := Lib.hid ((show Cs _ (w.heap.size + 1) [.int .i64 0, .int .i64 0, .int .i64 0, .int .i64 0, .int .i64 0, .int .i64 0, .int .i64 0, .int .i64 0, .string ⟨#[]⟩] from (by (repeat (first | with_reducible exact Crw1.out | (with_reducible refine Cs.new ?_; focus (first | rfl | (simp; done) | omega)) | with_reducible refine Cs.alloc ?_ _ | with_reducible refine Cs.drew ?_ | with_reducible refine Cs.drewN ?_ _ | (with_reducible refine Cs.other ?_ ?_ _; focus (first | omega | (simp; omega))) | with_reducible apply Cs.put)) <;> first | rfl | (simp; done))).after hb)
  have Ctw2 : Hid (Cs w2 (w1.heap.size) [.int .i64 cl, .int .i64 id, .int .i64 am, .int .i64 tag]) := Lib.hid ((show Cs _ (w1.heap.size) [.int .i64 cl, .int .i64 id, .int .i64 am, .int .i64 tag] from (by (repeat (first | (with_reducible refine Cs.new ?_; focus (first | rfl | (simp; done) | omega)) | with_reducible refine Cs.alloc ?_ _ | with_reducible refine Cs.drew ?_ | with_reducible refine Cs.drewN ?_ _ | (with_reducible refine Cs.other ?_ ?_ _; focus (first | omega | (simp; omega))) | with_reducible apply Cs.put)) <;> first | rfl | (simp; done))).after hb)
  clear hb
  have lxw2 := Cxw2.out.1
  have xw2g0 := (Cxw2.out.at 0 rfl).1
  have xw2g1 := (Cxw2.out.at 1 rfl).1
  have xw2g2 := (Cxw2.out.at 2 rfl).1
  have xw2g3 := (Cxw2.out.at 3 rfl).1
  have xw2g4 := (Cxw2.out.at 4 rfl).1
  have xw2g5 := (Cxw2.out.at 5 rfl).1
  have xw2g6 := (Cxw2.out.at 6 rfl).1
  have xw2g7 := (Cxw2.out.at 7 rfl).1
  have xw2g8 := (Cxw2.out.at 8 rfl).1
  have lrw2 := Crw2.out.1
  have ltw2 := Ctw2.out.1
  have tw2g0 := (Ctw2.out.at 0 rfl).1
  have tw2g1 := (Ctw2.out.at 1 rfl).1
  have tw2g2 := (Ctw2.out.at 2 rfl).1
  have tw2g3 := (Ctw2.out.at 3 rfl).1
  go_upto_region 3 with fail
  go_cut [7] (fun s7 wx => ∃ g, s7 = .pointer (some ⟨g, 0, none⟩) ∧ w2.heap.size ≤ g ∧ Cs wx g [.int .i64 id, .int .i64 0, .int .i64 (pk xde 20000000), .int .i64 (pk xfe 20000000), .int .i64 (pk xpr 20000000), .int .i64 (pk xch 20000000), .int .i64 0] ∧ Below w2.heap.size w2 wx)
  case first =>
    go_region_held3 (fun w' => w'.cell? ⟨w1.heap.size, 1, none⟩ = some (.int .i64 id) ∧ w'.cell? ⟨w.heap.size, 5, none⟩ = some (.int .i64 xde) ∧ w'.cell? ⟨w.heap.size, 6, none⟩ = some (.int .i64 xfe) ∧ w'.cell? ⟨w.heap.size, 7, none⟩ = some (.int .i64 xpr) ∧ w'.cell? ⟨w.heap.size, 8, none⟩ = some (.int .i64 xch)) (go_keep) ((go_at_call 17; refine (picked_any _ _ _ (by omega) (by omega) (by omega)).mono ?_; rintro e w' ⟨rfl, rfl⟩))
    all_goals go_wp2_with fail
    all_goals go_meet
    all_goals exact ⟨_, rfl, Nat.le_refl _, (Cs.new rfl).drew, (blw_alloc (Below.refl _ _) _).drew⟩
  case rest =>
    obtain ⟨g, rfl, hg, hc, hb⟩ := hcut
    have HBc : Hid (Below w.heap.size w wc) := Lib.hid (below_then' HBw2.out hb)
    have Cxc := Lib.hid (Cxw2.out.after hb)
    have Crc := Lib.hid (Crw2.out.after hb)
    have Ctc := Lib.hid (Ctw2.out.after hb)
    have Cgc := Lib.hid hc
    have hs2 := HBw2.out.size
    have lxc := Cxc.out.1
    have lrc := Crc.out.1
    have ltc := Ctc.out.1
    have lgc := Cgc.out.1
    clear hb hc
    clear xw2g0 xw2g1 xw2g2 xw2g3 xw2g4 xw2g5 xw2g6 xw2g7 xw2g8 tw2g0 tw2g1 tw2g2 tw2g3
    have gg0 := (Cgc.out.at 0 rfl).1
    have gg1 := (Cgc.out.at 1 rfl).1
    have gg2 := (Cgc.out.at 2 rfl).1
    have gg3 := (Cgc.out.at 3 rfl).1
    have gg4 := (Cgc.out.at 4 rfl).1
    have gg5 := (Cgc.out.at 5 rfl).1
    have gg6 := (Cgc.out.at 6 rfl).1
    have gf1 := (Cgc.out.at 1 rfl).2
    have gf6 := (Cgc.out.at 6 rfl).2
    have tg0 := (Ctc.out.at 0 rfl).1
    have tg1 := (Ctc.out.at 1 rfl).1
    have tg2 := (Ctc.out.at 2 rfl).1
    have tg3 := (Ctc.out.at 3 rfl).1
    have ngr : g ≠ w.heap.size + 1 := by omega
    have nrg : w.heap.size + 1 ≠ g := by omega
    have ngt : g ≠ w1.heap.size := by omega
    have ntg : w1.heap.size ≠ g := by omega
    by_cases hcl : cl = 0
    · have hcb : (cl == 0) = true := beq_iff_eq.mpr hcl
      obtain rfl : am = un := by rw [HUN.out, if_pos hcl]
      clear HUN
      clear hcl
      go_upto_region 7 with fail
      obtain ⟨u, hu⟩ : ∃ u, u = (wc.setCell ⟨g, 1, none⟩ (.int .i64 (pk xde 20000000 + pk xfe 20000000 + pk xpr 20000000 + pk xch 20000000))).setCell ⟨g, 6, none⟩ (.int .i64 am) := ⟨_, rfl⟩
      have Cxu : Hid (Cs u w.heap.size [.int .i64 xme, .int .i64 xcl, .int .i64 xid, .int .i64 xam, .int .i64 xtag, .int .i64 xde, .int .i64 xfe, .int .i64 xpr, .int .i64 xch]) := Lib.hid (by rw [hu]; exact Cs.other (by simp; omega) (Cs.other (by simp; omega) Cxc.out _) _)
      have Cru : Hid (Cs u (w.heap.size + 1) [.int .i64 0, .int .i64 0, .int .i64 0, .int .i64 0, .int .i64 0, .int .i64 0, .int .i64 0, .int .i64 0, .string ⟨#[]⟩]) := Lib.hid (by rw [hu]; exact Cs.other (by simp; omega) (Cs.other (by simp; omega) Crc.out _) _)
      have Cgu : Hid (Cs u g [.int .i64 id, .int .i64 (pk xde 20000000 + pk xfe 20000000 + pk xpr 20000000 + pk xch 20000000), .int .i64 (pk xde 20000000), .int .i64 (pk xfe 20000000), .int .i64 (pk xpr 20000000), .int .i64 (pk xch 20000000), .int .i64 am]) := Lib.hid (by rw [hu]; exact Cs.put (vs := [.int .i64 id, .int .i64 (pk xde 20000000 + pk xfe 20000000 + pk xpr 20000000 + pk xch 20000000), .int .i64 (pk xde 20000000), .int .i64 (pk xfe 20000000), .int .i64 (pk xpr 20000000), .int .i64 (pk xch 20000000), .int .i64 0]) (Cs.put (vs := [.int .i64 id, .int .i64 0, .int .i64 (pk xde 20000000), .int .i64 (pk xfe 20000000), .int .i64 (pk xpr 20000000), .int .i64 (pk xch 20000000), .int .i64 0]) Cgc.out (by simp) rfl) (by simp) rfl)
      have HBu : Hid (Below w.heap.size w u) := Lib.hid (by rw [hu]; exact (HBc.out.setCell (p := ⟨g, 1, none⟩) (by show w.heap.size ≤ g; omega) _).setCell (p := ⟨g, 6, none⟩) (by show w.heap.size ≤ g; omega) _)
      rw [← hu]
      clear hu
      have xu0 := (Cxu.out.at 0 rfl).1
      have gu0 := (Cgu.out.at 0 rfl).1
      have gu1 := (Cgu.out.at 1 rfl).1
      have gu2 := (Cgu.out.at 2 rfl).1
      have gu3 := (Cgu.out.at 3 rfl).1
      have gu4 := (Cgu.out.at 4 rfl).1
      have gu5 := (Cgu.out.at 5 rfl).1
      have gu6 := (Cgu.out.at 6 rfl).1
      have ru0 := (Cru.out.at 0 rfl).1
      have rf0 := (Cru.out.at 0 rfl).2
      have ru1 := (Cru.out.at 1 rfl).1
      have rf1 := (Cru.out.at 1 rfl).2
      have ru2 := (Cru.out.at 2 rfl).1
      have rf2 := (Cru.out.at 2 rfl).2
      have ru3 := (Cru.out.at 3 rfl).1
      have rf3 := (Cru.out.at 3 rfl).2
      have ru4 := (Cru.out.at 4 rfl).1
      have rf4 := (Cru.out.at 4 rfl).2
      have ru5 := (Cru.out.at 5 rfl).1
      have rf5 := (Cru.out.at 5 rfl).2
      have ru6 := (Cru.out.at 6 rfl).1
      have rf6 := (Cru.out.at 6 rfl).2
      have ru7 := (Cru.out.at 7 rfl).1
      have rf7 := (Cru.out.at 7 rfl).2
      have ru8 := (Cru.out.at 8 rfl).1
      have rf8 := (Cru.out.at 8 rfl).2
      have lru := Cru.out.1
      go_region_held3 (fun w' => w'.cell? ⟨w.heap.size, 0, none⟩ = some (.int .i64 xme) ∧ w'.cell? ⟨g, 0, none⟩ = some (.int .i64 id) ∧ w'.cell? ⟨g, 1, none⟩ = some (.int .i64 (pk xde 20000000 + pk xfe 20000000 + pk xpr 20000000 + pk xch 20000000)) ∧ w'.cell? ⟨g, 2, none⟩ = some (.int .i64 (pk xde 20000000)) ∧ w'.cell? ⟨g, 3, none⟩ = some (.int .i64 (pk xfe 20000000)) ∧ w'.cell? ⟨g, 4, none⟩ = some (.int .i64 (pk xpr 20000000)) ∧ w'.cell? ⟨g, 5, none⟩ = some (.int .i64 (pk xch 20000000)) ∧ w'.cell? ⟨g, 6, none⟩ = some (.int .i64 am)) (go_keep) ((go_at_call 17; refine (picked_any _ _ _ (by omega) (by omega) (by omega)).mono ?_; rintro e w' ⟨rfl, rfl⟩))
      all_goals go_wp2_with fail
      all_goals refine bodyPost_ret (v := .tuple #[.agg #[.int .i64 (pk xme 50), .int .i64 id, .int .i64 (pk xde 20000000 + pk xfe 20000000 + pk xpr 20000000 + pk xch 20000000), .int .i64 (pk xde 20000000), .int .i64 (pk xfe 20000000), .int .i64 (pk xpr 20000000), .int .i64 (pk xch 20000000), .int .i64 am, .string S], .bool true]) (by simp [results, Tryd.results29, go_sem, ru0, rf0, ru1, rf1, ru2, rf2, ru3, rf3, ru4, rf4, ru5, rf5, ru6, rf6, ru7, rf7, ru8, rf8]) rfl ⟨rfl, ?_⟩
      all_goals repeat (first | with_reducible exact HBu.out | with_reducible refine Below.drew ?_ | with_reducible refine blw_step ?_ _ | with_reducible refine Below.setCell (p := ⟨_, _, none⟩) ?_ (by show w.heap.size ≤ w.heap.size + 1; omega) _)
    · have hcb : (cl == 0) = false := beq_eq_false_iff_ne.mpr hcl
      obtain rfl : un = 0 := by rw [HUN.out, if_neg hcl]
      clear HUN
      clear hcl
      go_upto_region 7 with fail
      obtain ⟨u, hu⟩ : ∃ u, u = (wc.setCell ⟨g, 1, none⟩ (.int .i64 (pk xde 20000000 + pk xfe 20000000 + pk xpr 20000000 + pk xch 20000000))) := ⟨_, rfl⟩
      have Cxu : Hid (Cs u w.heap.size [.int .i64 xme, .int .i64 xcl, .int .i64 xid, .int .i64 xam, .int .i64 xtag, .int .i64 xde, .int .i64 xfe, .int .i64 xpr, .int .i64 xch]) := Lib.hid (by rw [hu]; exact Cs.other (by simp; omega) Cxc.out _)
      have Cru : Hid (Cs u (w.heap.size + 1) [.int .i64 0, .int .i64 0, .int .i64 0, .int .i64 0, .int .i64 0, .int .i64 0, .int .i64 0, .int .i64 0, .string ⟨#[]⟩]) := Lib.hid (by rw [hu]; exact Cs.other (by simp; omega) Crc.out _)
      have Cgu : Hid (Cs u g [.int .i64 id, .int .i64 (pk xde 20000000 + pk xfe 20000000 + pk xpr 20000000 + pk xch 20000000), .int .i64 (pk xde 20000000), .int .i64 (pk xfe 20000000), .int .i64 (pk xpr 20000000), .int .i64 (pk xch 20000000), .int .i64 0]) := Lib.hid (by rw [hu]; exact Cs.put (vs := [.int .i64 id, .int .i64 0, .int .i64 (pk xde 20000000), .int .i64 (pk xfe 20000000), .int .i64 (pk xpr 20000000), .int .i64 (pk xch 20000000), .int .i64 0]) Cgc.out (by simp) rfl)
      have HBu : Hid (Below w.heap.size w u) := Lib.hid (by rw [hu]; exact HBc.out.setCell (p := ⟨g, 1, none⟩) (by show w.heap.size ≤ g; omega) _)
      rw [← hu]
      clear hu
      have xu0 := (Cxu.out.at 0 rfl).1
      have gu0 := (Cgu.out.at 0 rfl).1
      have gu1 := (Cgu.out.at 1 rfl).1
      have gu2 := (Cgu.out.at 2 rfl).1
      have gu3 := (Cgu.out.at 3 rfl).1
      have gu4 := (Cgu.out.at 4 rfl).1
      have gu5 := (Cgu.out.at 5 rfl).1
      have gu6 := (Cgu.out.at 6 rfl).1
      have ru0 := (Cru.out.at 0 rfl).1
      have rf0 := (Cru.out.at 0 rfl).2
      have ru1 := (Cru.out.at 1 rfl).1
      have rf1 := (Cru.out.at 1 rfl).2
      have ru2 := (Cru.out.at 2 rfl).1
      have rf2 := (Cru.out.at 2 rfl).2
      have ru3 := (Cru.out.at 3 rfl).1
      have rf3 := (Cru.out.at 3 rfl).2
      have ru4 := (Cru.out.at 4 rfl).1
      have rf4 := (Cru.out.at 4 rfl).2
      have ru5 := (Cru.out.at 5 rfl).1
      have rf5 := (Cru.out.at 5 rfl).2
      have ru6 := (Cru.out.at 6 rfl).1
      have rf6 := (Cru.out.at 6 rfl).2
      have ru7 := (Cru.out.at 7 rfl).1
      have rf7 := (Cru.out.at 7 rfl).2
      have ru8 := (Cru.out.at 8 rfl).1
      have rf8 := (Cru.out.at 8 rfl).2
      have lru := Cru.out.1
      go_region_held3 (fun w' => w'.cell? ⟨w.heap.size, 0, none⟩ = some (.int .i64 xme) ∧ w'.cell? ⟨g, 0, none⟩ = some (.int .i64 id) ∧ w'.cell? ⟨g, 1, none⟩ = some (.int .i64 (pk xde 20000000 + pk xfe 20000000 + pk xpr 20000000 + pk xch 20000000)) ∧ w'.cell? ⟨g, 2, none⟩ = some (.int .i64 (pk xde 20000000)) ∧ w'.cell? ⟨g, 3, none⟩ = some (.int .i64 (pk xfe 20000000)) ∧ w'.cell? ⟨g, 4, none⟩ = some (.int .i64 (pk xpr 20000000)) ∧ w'.cell? ⟨g, 5, none⟩ = some (.int .i64 (pk xch 20000000)) ∧ w'.cell? ⟨g, 6, none⟩ = some (.int .i64 0)) (go_keep) ((go_at_call 17; refine (picked_any _ _ _ (by omega) (by omega) (by omega)).mono ?_; rintro e w' ⟨rfl, rfl⟩))
      all_goals go_wp2_with fail
      all_goals refine bodyPost_ret (v := .tuple #[.agg #[.int .i64 (pk xme 50), .int .i64 id, .int .i64 (pk xde 20000000 + pk xfe 20000000 + pk xpr 20000000 + pk xch 20000000), .int .i64 (pk xde 20000000), .int .i64 (pk xfe 20000000), .int .i64 (pk xpr 20000000), .int .i64 (pk xch 20000000), .int .i64 0, .string S], .bool true]) (by simp [results, Tryd.results29, go_sem, ru0, rf0, ru1, rf1, ru2, rf2, ru3, rf3, ru4, rf4, ru5, rf5, ru6, rf6, ru7, rf7, ru8, rf8]) rfl ⟨rfl, ?_⟩
      all_goals repeat (first | with_reducible exact HBu.out | with_reducible refine Below.drew ?_ | with_reducible refine blw_step ?_ _ | with_reducible refine Below.setCell (p := ⟨_, _, none⟩) ?_ (by show w.heap.size ≤ w.heap.size + 1; omega) _)
end Go.Proofs.YtccjcdecpgigpaaDoor.Rcf
