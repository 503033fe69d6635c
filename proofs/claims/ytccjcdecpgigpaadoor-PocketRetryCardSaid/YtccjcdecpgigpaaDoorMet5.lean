/- New meters and raw numbers by value; what is sold to a meter is good there. -/
import Derived.Test.YtccjcdecpgigpaaDoorSold
import Derived.Test.YtccjcdecpgigpaaDoorKey
import Derived.Test.YtccjcdecpgigpaaDoorOpenM
import Derived.Test.YtccjcdecpgigpaaDoorWinP
namespace Go.Proofs.YtccjcdecpgigpaaDoor.Met
open Go.RowKit Go.Proofs.YtccjcdecpgigpaaDoor.Base Go.Proofs.YtccjcdecpgigpaaDoor.Win Go.Proofs.YtccjcdecpgigpaaDoor.Orc Go.Proofs.YtccjcdecpgigpaaDoor.Tok
set_option linter.unusedVariables false
set_option linter.unusedSimpArgs false
set_option maxRecDepth 20000
/-- A new meter's raw numbers. -/
structure Nw where
  a : Int
  b : Int
  c : Int
  d : Int
def Nw.ok (x : Nw) : Prop := i64 x.a ∧ i64 x.b ∧ i64 x.c ∧ i64 x.d
def Nw.cs (x : Nw) : Array Value := #[.int .i64 x.a, .int .i64 x.b, .int .i64 x.c, .int .i64 x.d]
def Nw.mt (x : Nw) : Mt := ⟨pk x.a 50, pk x.b 16, pk x.c 100000000, 0, 0, pk x.d 5, 0⟩
open Go.ChangeShapes Go.WideShapes Go.ChangeAt in
theorem opens_nw {H : Type} {enc : TypeId × Value → H} {W : World} : Open.Opens enc Tryd.prog W 35 (fun (x : Nw) cs => cs = x.cs.toList ∧ x.ok) := by
  refine Open.opens_struct Tryd.underlying35 fun cs hl hf => ?_
  rw [show Tryd.prog.cellsOf 35 = 4 by kernel_rfl] at hl
  match cs, hl with
  | [c0, c1, c2, c3], _ =>
    obtain ⟨x0, e0, f0⟩ := Open.fld hf 0 rfl 0 1 rfl rfl (by kernel_rfl) (Open.opens_int Tryd.underlying3)
    obtain ⟨x1, e1, f1⟩ := Open.fld hf 1 rfl 1 1 rfl rfl (by kernel_rfl) (Open.opens_int Tryd.underlying3)
    obtain ⟨x2, e2, f2⟩ := Open.fld hf 2 rfl 2 1 rfl rfl (by kernel_rfl) (Open.opens_int Tryd.underlying3)
    obtain ⟨x3, e3, f3⟩ := Open.fld hf 3 rfl 3 1 rfl rfl (by kernel_rfl) (Open.opens_int Tryd.underlying3)
    simp at e0 e1 e2 e3
    subst e0 e1 e2 e3
    exact ⟨⟨x0, x1, x2, x3⟩, rfl, i64_bound f0, i64_bound f1, i64_bound f2, i64_bound f3⟩
open Go.ChangeShapes Go.WideShapes Go.ChangeAt in
theorem opens_raw {H : Type} {enc : TypeId × Value → H} {W : World} : Open.Opens enc Tryd.prog W 23 (fun (t : Tk) cs => cs = t.vals.toList ∧ t.ok) := by
  refine Open.opens_struct Tryd.underlying23 fun cs hl hf => ?_
  rw [show Tryd.prog.cellsOf 23 = 4 by kernel_rfl] at hl
  match cs, hl with
  | [c0, c1, c2, c3], _ =>
    obtain ⟨x0, e0, f0⟩ := Open.fld hf 0 rfl 0 1 rfl rfl (by kernel_rfl) (Open.opens_int Tryd.underlying3)
    obtain ⟨x1, e1, f1⟩ := Open.fld hf 1 rfl 1 1 rfl rfl (by kernel_rfl) (Open.opens_int Tryd.underlying3)
    obtain ⟨x2, e2, f2⟩ := Open.fld hf 2 rfl 2 1 rfl rfl (by kernel_rfl) (Open.opens_int Tryd.underlying3)
    obtain ⟨x3, e3, f3⟩ := Open.fld hf 3 rfl 3 1 rfl rfl (by kernel_rfl) (Open.opens_int Tryd.underlying3)
    simp at e0 e1 e2 e3
    subst e0 e1 e2 e3
    exact ⟨⟨x0, x1, x2, x3⟩, rfl, ⟨i64_bound f0, i64_bound f1⟩, i64_bound f2, i64_bound f3⟩
set_option maxHeartbeats 1000000 in
theorem newMeter_any (x : Nw) (w : World) (hx : x.ok) :
    Calls Tryd.prog 20 #[.agg x.cs] w fun e w' => e = .returned (.agg x.mt.vals) ∧ Below w.heap.size w w' := by
  obtain ⟨⟨a0, a1⟩, ⟨b0, b1⟩, ⟨c0, c1⟩, d0, d1⟩ := hx
  obtain ⟨a, b, c, d⟩ := x
  unfold Nw.cs Nw.mt Mt.vals
  simp only at *
  go_enter Tryd.func20, Tryd.ntmps20
  go_wp2
  go_region_held3 (fun w' => w'.cell? ⟨w.heap.size, 0, none⟩ = some (.int .i64 a) ∧ w'.cell? ⟨w.heap.size, 1, none⟩ = some (.int .i64 b) ∧ w'.cell? ⟨w.heap.size, 2, none⟩ = some (.int .i64 c) ∧ w'.cell? ⟨w.heap.size, 3, none⟩ = some (.int .i64 d)) (go_keep) ((go_at_call 17; refine (picked_any _ _ _ (by omega) (by omega) (by omega)).mono ?_; rintro e w' ⟨rfl, rfl⟩))
  go_wp2
  refine bodyPost_ret (v := .agg #[.int .i64 (pk a 50), .int .i64 (pk b 16), .int .i64 (pk c 100000000), .int .i64 0, .int .u64 0, .int .i64 (pk d 5), .int .i64 0]) (by simp [results, Tryd.results20, go_sem]) rfl ⟨rfl, ?_⟩
  exact (blw_alloc (blw_alloc (Below.refl _ _) _) _).drew
theorem Nw.lim (x : Nw) : (0 ≤ x.mt.me ∧ x.mt.me < 50) ∧ (0 ≤ x.mt.rev ∧ x.mt.rev ≤ 15) ∧ (0 ≤ x.mt.cr ∧ x.mt.cr ≤ 99999999) ∧ (0 ≤ x.mt.bad ∧ x.mt.bad < 5) := by
  obtain ⟨a0, a1⟩ := pk_bound x.a 50 (by omega)
  obtain ⟨b0, b1⟩ := pk_bound x.b 16 (by omega)
  obtain ⟨c0, c1⟩ := pk_bound x.c 100000000 (by omega)
  obtain ⟨d0, d1⟩ := pk_bound x.d 5 (by omega)
  exact ⟨⟨a0, a1⟩, ⟨b0, by show pk x.b 16 ≤ 15; omega⟩, ⟨c0, by show pk x.c 100000000 ≤ _; omega⟩, d0, d1⟩
theorem Nw.good (x : Nw) : x.mt.ok ∧ mmay x.mt = true := by
  obtain ⟨⟨a0, a1⟩, ⟨b0, b1⟩, ⟨c0, c1⟩, d0, d1⟩ := x.lim
  refine ⟨⟨⟨⟨by omega, by omega⟩, ⟨by omega, by omega⟩, ⟨by omega, by omega⟩⟩, ⟨⟨by show -9223372036854775808 ≤ (0 : Int); omega, by show (0 : Int) ≤ 9223372036854775807; omega⟩, by show 0 < 18446744073709551616; omega⟩, ⟨by omega, by omega⟩, ⟨by show -9223372036854775808 ≤ (0 : Int); omega, by show (0 : Int) ≤ 9223372036854775807; omega⟩⟩, ?_⟩
  unfold mmay
  rw [decide_eq_true (show x.mt.c1 from ⟨⟨a0, a1⟩, ⟨b0, b1⟩, c0, c1⟩), decide_eq_true (show x.mt.c2 from ⟨⟨d0, d1⟩, ⟨by show (0 : Int) ≤ 0; omega, by show (0 : Int) ≤ 30; omega⟩, fun h => by have h2 : (0 : Int) < 0 := h.2; omega⟩)]
  rfl
/-- What is issued at the meter's own revision is sold there. -/
theorem sold_own (x : Mt) (ps : List Pr) (body tag : Int) (r0 : 0 ≤ x.rev) (h : verB ps x.me x.rev body tag = true) : soldI x ps body tag = 0 := by
  have hs : seek ps x.me body tag (x.rev.toNat + 1) = x.rev := by
    have e : ((x.rev.toNat : Nat) : Int) = x.rev := Int.toNat_of_nonneg r0
    show (if verB ps x.me x.rev.toNat body tag then ((x.rev.toNat : Nat) : Int) else _) = _
    rw [e, h, if_pos rfl]
  unfold soldI
  rw [hs, if_neg (by omega), if_neg (by omega)]
theorem ver_iss (ps : List Pr) (m r b d : Int) : verB (issL ps m r b d) m r b (issT ps m r b d) = true := by
  unfold verB
  rw [had_iss, tag_iss]
  simp
theorem judge_new (id : Int) (h : 1 ≤ id) : judgeI 0 0 id = 0 := by
  unfold judgeI
  rw [if_neg (by omega), if_neg (by omega)]
/-- No pair of that meter: not sold. -/
theorem seek_none (ps : List Pr) (me body tag : Int) (h : ∀ r, verB ps me r body tag = false) (n : Nat) : seek ps me body tag n = -1 := by
  induction n with
  | zero => rfl
  | succ n ih =>
    show (if verB ps me n body tag then (n : Int) else seek ps me body tag n) = -1
    rw [h, ih]
    rfl
/-- What was sold here is taken. -/
theorem key_sold (x : Mt) (ps : List Pr) (t : Tk) (hf : faultI t = 0) (hl : x.lock = 0) (hc : t.cl ≠ 3) (r0 : 0 ≤ x.rev) (h : verB ps x.me x.rev (bodyI t) t.tag = true) : keyR x ps t = takeR x t 0 := by
  unfold keyR
  rw [if_neg (by simp [hf]), if_neg (by omega), if_neg hc, if_neg (by rw [sold_own x ps _ _ r0 h]; simp)]
theorem sold_nil (m : Mt) (x : Tk) (w : World) (m0 : 0 ≤ m.me ∧ m.me < 50) (r0 : 0 ≤ m.rev ∧ m.rev ≤ 15) (hx : x.ok) :
    Calls Tryd.prog 33 #[.agg #[.slice none 0 0], .agg m.vals, .agg x.vals] w fun e w' => ∃ B q, e = .returned (.tuple #[.agg #[.slice B (issL [] m.me m.rev (bodyI (madeT x)) (madeT x).tag).length q], .agg (soldT [] m.me m.rev x).vals, .bool true]) ∧ OwPr w.heap.size w' B q (issL [] m.me m.rev (bodyI (madeT x)) (madeT x).tag) ∧ Below w.heap.size w w' :=
  sold_any [] none 0 m x w ⟨by simp, fun h => absurd rfl h⟩ (by simp) Kept.nil.good (fun _ => ⟨rfl, rfl⟩) m0 r0 hx (.inr (by simp))
theorem kept_nil (m : Mt) (x : Tk) (m0 : 0 ≤ m.me ∧ m.me < 50) (r0 : 0 ≤ m.rev ∧ m.rev ≤ 15) : Kept (issL [] m.me m.rev (bodyI (madeT x)) (madeT x).tag) 1 := by
  obtain ⟨hb64, ⟨hb0, hb1⟩, ht0, ht1⟩ := made_lim x
  exact Kept.nil.step (by omega) (by unfold wok; exact decide_eq_true ⟨m0, ⟨r0.1, r0.2⟩, hb0, hb1⟩) ⟨by omega, by omega⟩ ⟨by omega, by omega⟩ hb64 ht0 ht1
theorem sold_lim (ps : List Pr) (me rev : Int) (x : Tk) (hg : Orc.Good ps) : (1 ≤ (soldT ps me rev x).id ∧ (soldT ps me rev x).id ≤ 1048575) ∧ (0 ≤ (soldT ps me rev x).am ∧ (soldT ps me rev x).am ≤ 2097151) ∧ ((soldT ps me rev x).cl = 0 → 1 ≤ (soldT ps me rev x).am) := by
  obtain ⟨⟨c0, c1⟩, ⟨i0, i1⟩, ⟨a0, a1⟩, g0, g1⟩ := fault_ok (soldT_good ps me rev x hg)
  have l0 : 0 ≤ amLo (soldT ps me rev x).cl := by unfold amLo; split <;> omega
  have l1 : amHi (soldT ps me rev x).cl ≤ 2097151 := by unfold amHi; split <;> (try split) <;> omega
  exact ⟨⟨i0, i1⟩, ⟨by omega, by omega⟩, fun h => by rw [h] at a0; exact a0⟩
/-- What sold gives is verified under its own meter and revision. -/
theorem sold_ver (m : Mt) (x : Tk) : verB (issL [] m.me m.rev (bodyI (madeT x)) (madeT x).tag) m.me m.rev (bodyI (soldT [] m.me m.rev x)) (soldT [] m.me m.rev x).tag = true := ver_iss [] m.me m.rev (bodyI (madeT x)) (madeT x).tag
theorem take_credit (x : Mt) (t : Tk) (hj : judgeI x.wh x.wb t.id = 0) (hc : t.cl = 0) : takeR x t 0 = if x.cr + t.am > 99999999 then (x, 0, 15) else ({ x with cr := x.cr + t.am, wh := takeH x.wh t.id, wb := takeB x.wh x.wb t.id, bad := 0 }, t.am, 0) := by
  unfold takeR doesR
  rw [if_pos hj]
  simp only [hc]
  by_cases h : x.cr + t.am > 99999999
  · simp [h]
  · simp [h]
theorem take_clear (x : Mt) (t : Tk) (hj : judgeI x.wh x.wb t.id = 0) (hc : t.cl = 1) : takeR x t 0 = ({ x with cr := 0, wh := takeH x.wh t.id, wb := takeB x.wh x.wb t.id, bad := 0 }, 0, 0) := by
  unfold takeR doesR
  rw [if_pos hj]
  simp [hc]
theorem take_change (x : Mt) (t : Tk) (hj : judgeI x.wh x.wb t.id = 0) (hc : t.cl = 2) : takeR x t 0 = if t.am ≤ x.rev then (x, 0, 24) else ({ x with rev := t.am, wh := takeH x.wh t.id, wb := takeB x.wh x.wb t.id, bad := 0 }, 0, 0) := by
  unfold takeR doesR
  rw [if_pos hj]
  simp only [hc]
  by_cases h : t.am ≤ x.rev
  · simp [h]
  · simp [h]
theorem pk_id (v n : Int) (h0 : 0 ≤ v) (h1 : v < n) : pk v n = v := by
  unfold pk
  rw [if_neg (by omega)]
  exact Int.emod_eq_of_lt h0 h1
/-- A meter behind its first token. -/
theorem first_inv (id : Int) (i0 : 1 ≤ id) (i1 : id ≤ 1048575) : InvW (takeH 0 id) (takeB 0 0 id) [id] ∧ takeH 0 id = id := by
  refine ⟨inv_take inv_nil id i0 i1 (judge_new id i0), ?_⟩
  unfold takeH
  rw [if_pos (by omega)]
theorem first_judge (id : Int) (i0 : 1 ≤ id) (i1 : id ≤ 1048575) : judgeI (takeH 0 id) (takeB 0 0 id) id = 14 := by
  obtain ⟨h, e⟩ := first_inv id i0 i1
  rw [judge_inv h id, if_neg (by omega), if_pos (by simp)]
theorem mmay_of {x : Mt} (h1 : x.c1) (h2 : x.c2) (h3 : wmay x.wh x.wb = true) : mmay x = true := by
  unfold mmay
  rw [decide_eq_true h1, decide_eq_true h2, h3]
  rfl
theorem ok_of {x : Mt} (h1 : x.c1) (h2 : x.c2) (h3 : wmay x.wh x.wb = true) (h4 : x.wb < 18446744073709551616) : x.ok := by
  obtain ⟨⟨a0, a1⟩, ⟨b0, b1⟩, c0, c1⟩ := h1
  obtain ⟨⟨d0, d1⟩, ⟨e0, e1⟩, _⟩ := h2
  obtain ⟨w0, w1⟩ := wmay_bd h3
  exact ⟨⟨⟨by omega, by omega⟩, ⟨by omega, by omega⟩, ⟨by omega, by omega⟩⟩, ⟨⟨by omega, by omega⟩, h4⟩, ⟨by omega, by omega⟩, ⟨by omega, by omega⟩⟩
end Go.Proofs.YtccjcdecpgigpaaDoor.Met
