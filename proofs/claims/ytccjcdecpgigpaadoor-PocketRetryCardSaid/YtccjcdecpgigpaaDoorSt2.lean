/- Contracts of the methods of meter.state: credit, clear, change, take. -/
import Derived.Test.YtccjcdecpgigpaaDoorSt
namespace Go.Proofs.YtccjcdecpgigpaaDoor.Met
open Go.RowKit Go.Proofs.YtccjcdecpgigpaaDoor.Base Go.Proofs.YtccjcdecpgigpaaDoor.Win Go.Proofs.YtccjcdecpgigpaaDoor.Orc Go.Proofs.YtccjcdecpgigpaaDoor.Tok
set_option linter.unusedVariables false
set_option linter.unusedSimpArgs false
set_option maxRecDepth 20000
def Mt.mine (x : Mt) : Prop := ((0 ≤ x.me ∧ x.me < 50) ∧ (0 ≤ x.rev ∧ x.rev ≤ 15) ∧ 0 ≤ x.cr ∧ x.cr ≤ 99999999) ∧ (0 ≤ x.bad ∧ x.bad < 5) ∧ (0 ≤ x.lock ∧ x.lock ≤ 30)
theorem via_calls {P : Program} {f : FuncId} {args : Array Value} {W : World} {Q : Ending → World → Prop} {C : World → Prop} (h : C W) (k : ∀ W, C W → Calls P f args W Q) : Calls P f args W Q := k W h
/-- Nothing but block s is changed. -/
def Oth (s : Nat) (w w' : World) : Prop := w'.heap.size = w.heap.size ∧ ∀ b, b ≠ s → w'.heap[b]? = w.heap[b]?
theorem Oth.refl (s : Nat) (w : World) : Oth s w w := ⟨rfl, fun _ _ => rfl⟩
theorem Oth.set {s : Nat} {w W : World} (h : Oth s w W) (o : Nat) (u : Value) : Oth s w (W.setCell ⟨s, o, none⟩ u) :=
  ⟨by rw [← h.1]; simp, fun b hb => (Below.heap_setCell W ⟨s, o, none⟩ u b hb).trans (h.2 b hb)⟩
theorem Oth.cell {s : Nat} {w w' : World} (h : Oth s w w') (b o : Nat) (hb : b ≠ s) : w'.cell? ⟨b, o, none⟩ = w.cell? ⟨b, o, none⟩ := World.cell?_of_block (h.2 b hb)
theorem Oth.frozen {s : Nat} {w w' : World} (h : Oth s w w') (b o : Nat) (hb : b ≠ s) : w'.frozen? ⟨b, o, none⟩ = w.frozen? ⟨b, o, none⟩ := World.frozen?_of_block (h.2 b hb)
theorem st_credit (s : Nat) (x : Mt) (ad u : Int) (w : World) (hs : St w s x ad) (hl : s < w.heap.size) (c0 : 0 ≤ x.cr) (c1 : x.cr ≤ 99999999) (u0 : 0 ≤ u) (u1 : u ≤ 2097151) :
    Calls Tryd.prog 116 #[.pointer (some ⟨s, 0, none⟩), .int .i64 u] w fun e w' => (if x.cr + u > 99999999 then e = .returned (.int .i64 15) ∧ St w' s x ad else e = .returned (.int .i64 0) ∧ St w' s { x with cr := x.cr + u } u) ∧ Below s w w' ∧ Oth s w w' := by
  have HS := Lib.hid hs
  obtain ⟨s0, s1, s2, s3, s4, s5, s6, s7, t0, t1, t2, t3, t4, t5, t6, t7⟩ := hs
  by_cases h : x.cr + u > 99999999
  · simp only [if_pos h]
    go_enter Tryd.func116, Tryd.ntmps116
    go_wp2
    go_ret
    exact ⟨⟨rfl, HS.out⟩, Below.refl _ _, Oth.refl _ _⟩
  · simp only [if_neg h]
    go_enter Tryd.func116, Tryd.ntmps116
    go_wp2
    go_ret
    refine ⟨⟨rfl, ?_⟩, ((Below.refl s w).setCell (p := ⟨s, 2, none⟩) (Nat.le_refl _) _).setCell (p := ⟨s, 7, none⟩) (Nat.le_refl _) _, ((Oth.refl s w).set 2 _).set 7 _⟩
    constructor <;> go_simp
theorem st_clear (s : Nat) (x : Mt) (ad u : Int) (w : World) (hs : St w s x ad) (hl : s < w.heap.size) :
    Calls Tryd.prog 117 #[.pointer (some ⟨s, 0, none⟩), .int .i64 u] w fun e w' => (e = .returned (.int .i64 0) ∧ St w' s { x with cr := 0 } ad) ∧ Below s w w' ∧ Oth s w w' := by
  obtain ⟨s0, s1, s2, s3, s4, s5, s6, s7, t0, t1, t2, t3, t4, t5, t6, t7⟩ := hs
  go_enter Tryd.func117, Tryd.ntmps117
  go_wp2
  go_ret
  refine ⟨⟨rfl, ?_⟩, ((Below.refl s w).setCell (p := ⟨s, 2, none⟩) (Nat.le_refl _) _), (Oth.refl s w).set 2 _⟩
  constructor <;> go_simp
theorem st_change (s : Nat) (x : Mt) (ad u : Int) (w : World) (hs : St w s x ad) (hl : s < w.heap.size) :
    Calls Tryd.prog 118 #[.pointer (some ⟨s, 0, none⟩), .int .i64 u] w fun e w' => (if u ≤ x.rev then e = .returned (.int .i64 24) ∧ St w' s x ad else e = .returned (.int .i64 0) ∧ St w' s { x with rev := u } ad) ∧ Below s w w' ∧ Oth s w w' := by
  have HS := Lib.hid hs
  obtain ⟨s0, s1, s2, s3, s4, s5, s6, s7, t0, t1, t2, t3, t4, t5, t6, t7⟩ := hs
  by_cases h : u ≤ x.rev
  · simp only [if_pos h]
    go_enter Tryd.func118, Tryd.ntmps118
    go_wp2
    go_ret
    exact ⟨⟨rfl, HS.out⟩, Below.refl _ _, Oth.refl _ _⟩
  · simp only [if_neg h]
    go_enter Tryd.func118, Tryd.ntmps118
    go_wp2
    go_ret
    refine ⟨⟨rfl, ?_⟩, ((Below.refl s w).setCell (p := ⟨s, 1, none⟩) (Nat.le_refl _) _), (Oth.refl s w).set 1 _⟩
    constructor <;> go_simp
/-- What a class does with a state: state, added, code. -/
def doesR (x : Mt) (t : Tk) (ad : Int) : Mt × Int × Int :=
  if t.cl = 1 then ({ x with cr := 0 }, ad, 0)
  else if t.cl = 2 then (if t.am ≤ x.rev then (x, ad, 24) else ({ x with rev := t.am }, ad, 0))
  else if x.cr + t.am > 99999999 then (x, ad, 15) else ({ x with cr := x.cr + t.am }, t.am, 0)
def takeR (x : Mt) (t : Tk) (ad : Int) : Mt × Int × Int :=
  if judgeI x.wh x.wb t.id = 0 then
    if (doesR x t ad).2.2 = 0 then ({ (doesR x t ad).1 with wh := takeH x.wh t.id, wb := takeB x.wh x.wb t.id, bad := 0 }, (doesR x t ad).2.1, 0)
    else doesR x t ad
  else (x, ad, judgeI x.wh x.wb t.id)
set_option maxHeartbeats 2000000 in
theorem st_take (s : Nat) (x : Mt) (ad : Int) (t : Tk) (w : World) (hs : St w s x ad) (hl : s < w.heap.size) (hB : x.wb < 18446744073709551616) (hm : wmay x.wh x.wb = true) (ht : faultI t = 0) (hc3 : t.cl ≠ 3) (c0 : 0 ≤ x.cr) (c1 : x.cr ≤ 99999999) :
    Calls Tryd.prog 77 #[.pointer (some ⟨s, 0, none⟩), .agg t.vals] w fun e w' => e = .returned (.int .i64 (takeR x t ad).2.2) ∧ St w' s (takeR x t ad).1 (takeR x t ad).2.1 ∧ Below s w w' := by
  have HS := Lib.hid hs
  obtain ⟨hcl, ⟨i0, i1⟩, ⟨a0, a1⟩, g0, g1⟩ := fault_ok ht
  obtain ⟨R, hR⟩ : ∃ R, R = takeR x t ad := ⟨_, rfl⟩
  rw [← hR]
  unfold takeR at hR
  by_cases hj : judgeI x.wh x.wb t.id = 0
  · rw [if_pos hj] at hR
    have HT := Lib.hid (fun w => take_yes x.wh x.wb t.id w hB hm i0 i1 hj)
    have HRR := Lib.hid hR
    clear hR hj hm ht
    obtain ⟨s0, s1, s2, s3, s4, s5, s6, s7, t0, t1, t2, t3, t4, t5, t6, t7⟩ := hs
    obtain ⟨cl, id, am, tag⟩ := t
    unfold Tk.vals
    simp only at *
    generalize takeH x.wh id = nh at *
    generalize takeB x.wh x.wb id = nb at *
    have hc : cl = 0 ∨ cl = 1 ∨ cl = 2 := by unfold clok at hcl; omega
    clear hcl hc3
    rcases hc with rfl | rfl | rfl
    · go_enter Tryd.func77, Tryd.ntmps77
      go_wp2
      go_region_held3 (fun w' => w'.cell? ⟨s, 3, none⟩ = some (.int .i64 x.wh) ∧ w'.cell? ⟨s, 4, none⟩ = some (.int .u64 (x.wb : Int)) ∧ w'.cell? ⟨w.heap.size, 1, none⟩ = some (.int .i64 id)) (go_keep) (first | (go_at_call 115; refine (HT.out _).mono ?_; rintro e w1 ⟨rfl, hb1⟩; obtain ⟨bc, bf⟩ := bcell hb1; have hz1 := hb1.size; simp at hz1; have HB1 := Lib.hid (below_then' (show Below w.heap.size w _ from (blw_alloc (blw_alloc (Below.refl _ _) _) _).drew) hb1); have q3 : w1.cell? ⟨s, 3, none⟩ = some (.int .i64 x.wh) := (by rw [bc _ _ (by simp <;> omega)]; go_simp); have q4 : w1.cell? ⟨s, 4, none⟩ = some (.int .u64 (x.wb : Int)) := (by rw [bc _ _ (by simp <;> omega)]; go_simp); have p0 : w1.cell? ⟨w.heap.size, 0, none⟩ = some (.int .i64 0) := (by rw [bc _ _ (by simp <;> omega)]; go_simp); have p1 : w1.cell? ⟨w.heap.size, 1, none⟩ = some (.int .i64 id) := (by rw [bc _ _ (by simp <;> omega)]; go_simp); have p2 : w1.cell? ⟨w.heap.size, 2, none⟩ = some (.int .i64 am) := (by rw [bc _ _ (by simp <;> omega)]; go_simp); have u0 : w1.cell? ⟨w.heap.size + 1, 0, none⟩ = some (.int .i64 0) := (by rw [bc _ _ (by simp <;> omega)]; go_simp); have u1 : w1.cell? ⟨w.heap.size + 1, 1, none⟩ = some (.int .u64 0) := (by rw [bc _ _ (by simp <;> omega)]; go_simp); have v0 : w1.frozen? ⟨w.heap.size + 1, 0, none⟩ = false := (by rw [bf _ _ (by simp <;> omega)]; go_simp); have v1 : w1.frozen? ⟨w.heap.size + 1, 1, none⟩ = false := (by rw [bf _ _ (by simp <;> omega)]; go_simp); have lt2 : w.heap.size + 1 < w1.heap.size := (by omega); have n1 : s ≠ w.heap.size + 1 := (by omega); have n2 : w.heap.size + 1 ≠ s := (by omega); have lt1 : w.heap.size < w1.heap.size := (by omega); clear hb1 bc bf) | (go_at_call 115; refine (HT.out _).mono ?_; rintro e w1 ⟨rfl, hb1⟩; obtain ⟨bc, bf⟩ := bcell hb1; have hz1 := hb1.size; simp at hz1; have HB1 := Lib.hid (below_then' (show Below w.heap.size w _ from (blw_alloc (Below.refl _ _) _).drew) hb1); have q3 : w1.cell? ⟨s, 3, none⟩ = some (.int .i64 x.wh) := (by rw [bc _ _ (by simp <;> omega)]; go_simp); have q4 : w1.cell? ⟨s, 4, none⟩ = some (.int .u64 (x.wb : Int)) := (by rw [bc _ _ (by simp <;> omega)]; go_simp); have p0 : w1.cell? ⟨w.heap.size, 0, none⟩ = some (.int .i64 0) := (by rw [bc _ _ (by simp <;> omega)]; go_simp); have p1 : w1.cell? ⟨w.heap.size, 1, none⟩ = some (.int .i64 id) := (by rw [bc _ _ (by simp <;> omega)]; go_simp); have p2 : w1.cell? ⟨w.heap.size, 2, none⟩ = some (.int .i64 am) := (by rw [bc _ _ (by simp <;> omega)]; go_simp); have lt1 : w.heap.size < w1.heap.size := (by omega); clear hb1 bc bf))
      all_goals
        have HS1 := Lib.hid (HS.out.kept HB1.out hl)
        have ls : s < w1.heap.size := by omega
        obtain ⟨s0, s1, s2, s3, s4, s5, s6, s7, t0, t1, t2, t3, t4, t5, t6, t7⟩ := HS1.out
        go_wp2_with (fail)
        first | (refine via_calls (C := fun W => St W s x ad ∧ Below s w W ∧ s < W.heap.size ∧ w1.heap.size < W.heap.size ∧ w1.heap.size ≠ s ∧ W.cell? ⟨w1.heap.size, 0, none⟩ = some (.int .i64 nh) ∧ W.cell? ⟨w1.heap.size, 1, none⟩ = some (.int .u64 (nb : Int))) ⟨(by constructor <;> go_simp), (HB1.out.mono (Nat.le_of_lt hl)).alloc (Nat.le_of_lt ls) _, (by simp; omega), (by simp <;> omega), (by omega), (by go_simp), (by go_simp)⟩ ?_; rintro W ⟨hsW, hbW, lW, ltb, ntb, y0, y1⟩; clear s0 s1 s2 s3 s4 s5 s6 s7 t0 t1 t2 t3 t4 t5 t6 t7; generalize w1.heap.size = tb at *) | (refine via_calls (C := fun W => St W s x ad ∧ Below s w W ∧ s < W.heap.size ∧ w.heap.size + 1 < W.heap.size ∧ w.heap.size + 1 ≠ s ∧ W.cell? ⟨w.heap.size + 1, 0, none⟩ = some (.int .i64 nh) ∧ W.cell? ⟨w.heap.size + 1, 1, none⟩ = some (.int .u64 (nb : Int))) ⟨(by constructor <;> go_simp), ((HB1.out.mono (Nat.le_of_lt hl)).setCell (p := ⟨w.heap.size + 1, 0, none⟩) (by simp; omega) _).setCell (p := ⟨w.heap.size + 1, 1, none⟩) (by simp; omega) _, (by simp; omega), (by simp <;> omega), (by omega), (by go_simp), (by go_simp)⟩ ?_; rintro W ⟨hsW, hbW, lW, ltb, ntb, y0, y1⟩; clear s0 s1 s2 s3 s4 s5 s6 s7 t0 t1 t2 t3 t4 t5 t6 t7; generalize w.heap.size + 1 = tb at *)
        have HBW := Lib.hid hbW
        clear hbW
        refine (st_credit s x ad am W hsW lW c0 c1 (by have : amLo 0 = 1 := rfl; omega) (by have : amHi 0 = 2097151 := rfl; omega)).mono ?_
        rintro e w2 ⟨hp, hb2, ho2⟩
        by_cases hfull : x.cr + am > 99999999
        · rw [if_pos hfull] at hp
          obtain ⟨rfl, hs2⟩ := hp
          have hr : R = (x, ad, 15) := by rw [HRR.out]; simp [doesR, hfull]
          have HR1 := Lib.hid hr
          clear hr
          have HS2 := Lib.hid hs2
          have HB2 := Lib.hid hb2
          have HO2 := Lib.hid ho2
          clear hs2 hb2 ho2
          clear y0 y1
          go_wp2
          go_ret
          exact ⟨by rw [HR1.out]; rfl, by rw [HR1.out]; exact HS2.out, HBW.out.trans HB2.out⟩
        · rw [if_neg hfull] at hp
          obtain ⟨rfl, hs2⟩ := hp
          have hr : R = ({ x with cr := x.cr + am, wh := nh, wb := nb, bad := 0 }, am, 0) := by rw [HRR.out]; simp [doesR, hfull]
          have HR1 := Lib.hid hr
          clear hr
          have HS2 := Lib.hid hs2
          have HB2 := Lib.hid hb2
          have HO2 := Lib.hid ho2
          clear hs2 hb2 ho2
          have z0 : w2.cell? ⟨tb, 0, none⟩ = some (.int .i64 nh) := (HO2.out.cell tb 0 ntb).trans y0
          have z1 : w2.cell? ⟨tb, 1, none⟩ = some (.int .u64 (nb : Int)) := (HO2.out.cell tb 1 ntb).trans y1
          have hz2 : w2.heap.size = W.heap.size := HO2.out.1
          obtain ⟨s0, s1, s2, s3, s4, s5, s6, s7, t0, t1, t2, t3, t4, t5, t6, t7⟩ := HS2.out
          clear y0 y1
          go_wp2
          go_ret
          have hW := (HBW.out.trans HB2.out)
          refine ⟨by rw [HR1.out]; rfl, ?_, ((hW.setCell (p := ⟨s, 3, none⟩) (Nat.le_refl _) _).setCell (p := ⟨s, 4, none⟩) (Nat.le_refl _) _).setCell (p := ⟨s, 5, none⟩) (Nat.le_refl _) _⟩
          rw [HR1.out]
          constructor <;> go_simp
    · go_enter Tryd.func77, Tryd.ntmps77
      go_wp2
      go_region_held3 (fun w' => w'.cell? ⟨s, 3, none⟩ = some (.int .i64 x.wh) ∧ w'.cell? ⟨s, 4, none⟩ = some (.int .u64 (x.wb : Int)) ∧ w'.cell? ⟨w.heap.size, 1, none⟩ = some (.int .i64 id)) (go_keep) (first | (go_at_call 115; refine (HT.out _).mono ?_; rintro e w1 ⟨rfl, hb1⟩; obtain ⟨bc, bf⟩ := bcell hb1; have hz1 := hb1.size; simp at hz1; have HB1 := Lib.hid (below_then' (show Below w.heap.size w _ from (blw_alloc (blw_alloc (Below.refl _ _) _) _).drew) hb1); have q3 : w1.cell? ⟨s, 3, none⟩ = some (.int .i64 x.wh) := (by rw [bc _ _ (by simp <;> omega)]; go_simp); have q4 : w1.cell? ⟨s, 4, none⟩ = some (.int .u64 (x.wb : Int)) := (by rw [bc _ _ (by simp <;> omega)]; go_simp); have p0 : w1.cell? ⟨w.heap.size, 0, none⟩ = some (.int .i64 1) := (by rw [bc _ _ (by simp <;> omega)]; go_simp); have p1 : w1.cell? ⟨w.heap.size, 1, none⟩ = some (.int .i64 id) := (by rw [bc _ _ (by simp <;> omega)]; go_simp); have p2 : w1.cell? ⟨w.heap.size, 2, none⟩ = some (.int .i64 am) := (by rw [bc _ _ (by simp <;> omega)]; go_simp); have u0 : w1.cell? ⟨w.heap.size + 1, 0, none⟩ = some (.int .i64 0) := (by rw [bc _ _ (by simp <;> omega)]; go_simp); have u1 : w1.cell? ⟨w.heap.size + 1, 1, none⟩ = some (.int .u64 0) := (by rw [bc _ _ (by simp <;> omega)]; go_simp); have v0 : w1.frozen? ⟨w.heap.size + 1, 0, none⟩ = false := (by rw [bf _ _ (by simp <;> omega)]; go_simp); have v1 : w1.frozen? ⟨w.heap.size + 1, 1, none⟩ = false := (by rw [bf _ _ (by simp <;> omega)]; go_simp); have lt2 : w.heap.size + 1 < w1.heap.size := (by omega); have n1 : s ≠ w.heap.size + 1 := (by omega); have n2 : w.heap.size + 1 ≠ s := (by omega); have lt1 : w.heap.size < w1.heap.size := (by omega); clear hb1 bc bf) | (go_at_call 115; refine (HT.out _).mono ?_; rintro e w1 ⟨rfl, hb1⟩; obtain ⟨bc, bf⟩ := bcell hb1; have hz1 := hb1.size; simp at hz1; have HB1 := Lib.hid (below_then' (show Below w.heap.size w _ from (blw_alloc (Below.refl _ _) _).drew) hb1); have q3 : w1.cell? ⟨s, 3, none⟩ = some (.int .i64 x.wh) := (by rw [bc _ _ (by simp <;> omega)]; go_simp); have q4 : w1.cell? ⟨s, 4, none⟩ = some (.int .u64 (x.wb : Int)) := (by rw [bc _ _ (by simp <;> omega)]; go_simp); have p0 : w1.cell? ⟨w.heap.size, 0, none⟩ = some (.int .i64 1) := (by rw [bc _ _ (by simp <;> omega)]; go_simp); have p1 : w1.cell? ⟨w.heap.size, 1, none⟩ = some (.int .i64 id) := (by rw [bc _ _ (by simp <;> omega)]; go_simp); have p2 : w1.cell? ⟨w.heap.size, 2, none⟩ = some (.int .i64 am) := (by rw [bc _ _ (by simp <;> omega)]; go_simp); have lt1 : w.heap.size < w1.heap.size := (by omega); clear hb1 bc bf))
      all_goals
        have HS1 := Lib.hid (HS.out.kept HB1.out hl)
        have ls : s < w1.heap.size := by omega
        obtain ⟨s0, s1, s2, s3, s4, s5, s6, s7, t0, t1, t2, t3, t4, t5, t6, t7⟩ := HS1.out
        go_wp2_with (fail)
        first | (refine via_calls (C := fun W => St W s x ad ∧ Below s w W ∧ s < W.heap.size ∧ w1.heap.size < W.heap.size ∧ w1.heap.size ≠ s ∧ W.cell? ⟨w1.heap.size, 0, none⟩ = some (.int .i64 nh) ∧ W.cell? ⟨w1.heap.size, 1, none⟩ = some (.int .u64 (nb : Int))) ⟨(by constructor <;> go_simp), (HB1.out.mono (Nat.le_of_lt hl)).alloc (Nat.le_of_lt ls) _, (by simp; omega), (by simp <;> omega), (by omega), (by go_simp), (by go_simp)⟩ ?_; rintro W ⟨hsW, hbW, lW, ltb, ntb, y0, y1⟩; clear s0 s1 s2 s3 s4 s5 s6 s7 t0 t1 t2 t3 t4 t5 t6 t7; generalize w1.heap.size = tb at *) | (refine via_calls (C := fun W => St W s x ad ∧ Below s w W ∧ s < W.heap.size ∧ w.heap.size + 1 < W.heap.size ∧ w.heap.size + 1 ≠ s ∧ W.cell? ⟨w.heap.size + 1, 0, none⟩ = some (.int .i64 nh) ∧ W.cell? ⟨w.heap.size + 1, 1, none⟩ = some (.int .u64 (nb : Int))) ⟨(by constructor <;> go_simp), ((HB1.out.mono (Nat.le_of_lt hl)).setCell (p := ⟨w.heap.size + 1, 0, none⟩) (by simp; omega) _).setCell (p := ⟨w.heap.size + 1, 1, none⟩) (by simp; omega) _, (by simp; omega), (by simp <;> omega), (by omega), (by go_simp), (by go_simp)⟩ ?_; rintro W ⟨hsW, hbW, lW, ltb, ntb, y0, y1⟩; clear s0 s1 s2 s3 s4 s5 s6 s7 t0 t1 t2 t3 t4 t5 t6 t7; generalize w.heap.size + 1 = tb at *)
        have HBW := Lib.hid hbW
        clear hbW
        refine (st_clear s x ad am W hsW lW).mono ?_
        rintro e w2 ⟨⟨rfl, hs2⟩, hb2, ho2⟩
        · have hr : R = ({ x with cr := 0, wh := nh, wb := nb, bad := 0 }, ad, 0) := by rw [HRR.out]; simp [doesR]
          have HR1 := Lib.hid hr
          clear hr
          have HS2 := Lib.hid hs2
          have HB2 := Lib.hid hb2
          have HO2 := Lib.hid ho2
          clear hs2 hb2 ho2
          have z0 : w2.cell? ⟨tb, 0, none⟩ = some (.int .i64 nh) := (HO2.out.cell tb 0 ntb).trans y0
          have z1 : w2.cell? ⟨tb, 1, none⟩ = some (.int .u64 (nb : Int)) := (HO2.out.cell tb 1 ntb).trans y1
          have hz2 : w2.heap.size = W.heap.size := HO2.out.1
          obtain ⟨s0, s1, s2, s3, s4, s5, s6, s7, t0, t1, t2, t3, t4, t5, t6, t7⟩ := HS2.out
          clear y0 y1
          go_wp2
          go_ret
          have hW := (HBW.out.trans HB2.out)
          refine ⟨by rw [HR1.out]; rfl, ?_, ((hW.setCell (p := ⟨s, 3, none⟩) (Nat.le_refl _) _).setCell (p := ⟨s, 4, none⟩) (Nat.le_refl _) _).setCell (p := ⟨s, 5, none⟩) (Nat.le_refl _) _⟩
          rw [HR1.out]
          constructor <;> go_simp
    · go_enter Tryd.func77, Tryd.ntmps77
      go_wp2
      go_region_held3 (fun w' => w'.cell? ⟨s, 3, none⟩ = some (.int .i64 x.wh) ∧ w'.cell? ⟨s, 4, none⟩ = some (.int .u64 (x.wb : Int)) ∧ w'.cell? ⟨w.heap.size, 1, none⟩ = some (.int .i64 id)) (go_keep) (first | (go_at_call 115; refine (HT.out _).mono ?_; rintro e w1 ⟨rfl, hb1⟩; obtain ⟨bc, bf⟩ := bcell hb1; have hz1 := hb1.size; simp at hz1; have HB1 := Lib.hid (below_then' (show Below w.heap.size w _ from (blw_alloc (blw_alloc (Below.refl _ _) _) _).drew) hb1); have q3 : w1.cell? ⟨s, 3, none⟩ = some (.int .i64 x.wh) := (by rw [bc _ _ (by simp <;> omega)]; go_simp); have q4 : w1.cell? ⟨s, 4, none⟩ = some (.int .u64 (x.wb : Int)) := (by rw [bc _ _ (by simp <;> omega)]; go_simp); have p0 : w1.cell? ⟨w.heap.size, 0, none⟩ = some (.int .i64 2) := (by rw [bc _ _ (by simp <;> omega)]; go_simp); have p1 : w1.cell? ⟨w.heap.size, 1, none⟩ = some (.int .i64 id) := (by rw [bc _ _ (by simp <;> omega)]; go_simp); have p2 : w1.cell? ⟨w.heap.size, 2, none⟩ = some (.int .i64 am) := (by rw [bc _ _ (by simp <;> omega)]; go_simp); have u0 : w1.cell? ⟨w.heap.size + 1, 0, none⟩ = some (.int .i64 0) := (by rw [bc _ _ (by simp <;> omega)]; go_simp); have u1 : w1.cell? ⟨w.heap.size + 1, 1, none⟩ = some (.int .u64 0) := (by rw [bc _ _ (by simp <;> omega)]; go_simp); have v0 : w1.frozen? ⟨w.heap.size + 1, 0, none⟩ = false := (by rw [bf _ _ (by simp <;> omega)]; go_simp); have v1 : w1.frozen? ⟨w.heap.size + 1, 1, none⟩ = false := (by rw [bf _ _ (by simp <;> omega)]; go_simp); have lt2 : w.heap.size + 1 < w1.heap.size := (by omega); have n1 : s ≠ w.heap.size + 1 := (by omega); have n2 : w.heap.size + 1 ≠ s := (by omega); have lt1 : w.heap.size < w1.heap.size := (by omega); clear hb1 bc bf) | (go_at_call 115; refine (HT.out _).mono ?_; rintro e w1 ⟨rfl, hb1⟩; obtain ⟨bc, bf⟩ := bcell hb1; have hz1 := hb1.size; simp at hz1; have HB1 := Lib.hid (below_then' (show Below w.heap.size w _ from (blw_alloc (Below.refl _ _) _).drew) hb1); have q3 : w1.cell? ⟨s, 3, none⟩ = some (.int .i64 x.wh) := (by rw [bc _ _ (by simp <;> omega)]; go_simp); have q4 : w1.cell? ⟨s, 4, none⟩ = some (.int .u64 (x.wb : Int)) := (by rw [bc _ _ (by simp <;> omega)]; go_simp); have p0 : w1.cell? ⟨w.heap.size, 0, none⟩ = some (.int .i64 2) := (by rw [bc _ _ (by simp <;> omega)]; go_simp); have p1 : w1.cell? ⟨w.heap.size, 1, none⟩ = some (.int .i64 id) := (by rw [bc _ _ (by simp <;> omega)]; go_simp); have p2 : w1.cell? ⟨w.heap.size, 2, none⟩ = some (.int .i64 am) := (by rw [bc _ _ (by simp <;> omega)]; go_simp); have lt1 : w.heap.size < w1.heap.size := (by omega); clear hb1 bc bf))
      all_goals
        have HS1 := Lib.hid (HS.out.kept HB1.out hl)
        have ls : s < w1.heap.size := by omega
        obtain ⟨s0, s1, s2, s3, s4, s5, s6, s7, t0, t1, t2, t3, t4, t5, t6, t7⟩ := HS1.out
        go_wp2_with (fail)
        first | (refine via_calls (C := fun W => St W s x ad ∧ Below s w W ∧ s < W.heap.size ∧ w1.heap.size < W.heap.size ∧ w1.heap.size ≠ s ∧ W.cell? ⟨w1.heap.size, 0, none⟩ = some (.int .i64 nh) ∧ W.cell? ⟨w1.heap.size, 1, none⟩ = some (.int .u64 (nb : Int))) ⟨(by constructor <;> go_simp), (HB1.out.mono (Nat.le_of_lt hl)).alloc (Nat.le_of_lt ls) _, (by simp; omega), (by simp <;> omega), (by omega), (by go_simp), (by go_simp)⟩ ?_; rintro W ⟨hsW, hbW, lW, ltb, ntb, y0, y1⟩; clear s0 s1 s2 s3 s4 s5 s6 s7 t0 t1 t2 t3 t4 t5 t6 t7; generalize w1.heap.size = tb at *) | (refine via_calls (C := fun W => St W s x ad ∧ Below s w W ∧ s < W.heap.size ∧ w.heap.size + 1 < W.heap.size ∧ w.heap.size + 1 ≠ s ∧ W.cell? ⟨w.heap.size + 1, 0, none⟩ = some (.int .i64 nh) ∧ W.cell? ⟨w.heap.size + 1, 1, none⟩ = some (.int .u64 (nb : Int))) ⟨(by constructor <;> go_simp), ((HB1.out.mono (Nat.le_of_lt hl)).setCell (p := ⟨w.heap.size + 1, 0, none⟩) (by simp; omega) _).setCell (p := ⟨w.heap.size + 1, 1, none⟩) (by simp; omega) _, (by simp; omega), (by simp <;> omega), (by omega), (by go_simp), (by go_simp)⟩ ?_; rintro W ⟨hsW, hbW, lW, ltb, ntb, y0, y1⟩; clear s0 s1 s2 s3 s4 s5 s6 s7 t0 t1 t2 t3 t4 t5 t6 t7; generalize w.heap.size + 1 = tb at *)
        have HBW := Lib.hid hbW
        clear hbW
        refine (st_change s x ad am W hsW lW).mono ?_
        rintro e w2 ⟨hp, hb2, ho2⟩
        by_cases hfull : am ≤ x.rev
        · rw [if_pos hfull] at hp
          obtain ⟨rfl, hs2⟩ := hp
          have hr : R = (x, ad, 24) := by rw [HRR.out]; simp [doesR, hfull]
          have HR1 := Lib.hid hr
          clear hr
          have HS2 := Lib.hid hs2
          have HB2 := Lib.hid hb2
          have HO2 := Lib.hid ho2
          clear hs2 hb2 ho2
          clear y0 y1
          go_wp2
          go_ret
          exact ⟨by rw [HR1.out]; rfl, by rw [HR1.out]; exact HS2.out, HBW.out.trans HB2.out⟩
        · rw [if_neg hfull] at hp
          obtain ⟨rfl, hs2⟩ := hp
          have hr : R = ({ x with rev := am, wh := nh, wb := nb, bad := 0 }, ad, 0) := by rw [HRR.out]; simp [doesR, hfull]
          have HR1 := Lib.hid hr
          clear hr
          have HS2 := Lib.hid hs2
          have HB2 := Lib.hid hb2
          have HO2 := Lib.hid ho2
          clear hs2 hb2 ho2
          have z0 : w2.cell? ⟨tb, 0, none⟩ = some (.int .i64 nh) := (HO2.out.cell tb 0 ntb).trans y0
          have z1 : w2.cell? ⟨tb, 1, none⟩ = some (.int .u64 (nb : Int)) := (HO2.out.cell tb 1 ntb).trans y1
          have hz2 : w2.heap.size = W.heap.size := HO2.out.1
          obtain ⟨s0, s1, s2, s3, s4, s5, s6, s7, t0, t1, t2, t3, t4, t5, t6, t7⟩ := HS2.out
          clear y0 y1
          go_wp2
          go_ret
          have hW := (HBW.out.trans HB2.out)
          refine ⟨by rw [HR1.out]; rfl, ?_, ((hW.setCell (p := ⟨s, 3, none⟩) (Nat.le_refl _) _).setCell (p := ⟨s, 4, none⟩) (Nat.le_refl _) _).setCell (p := ⟨s, 5, none⟩) (Nat.le_refl _) _⟩
          rw [HR1.out]
          constructor <;> go_simp
  · rw [if_neg hj] at hR
    subst hR
    have HT := Lib.hid (fun w => take_no x.wh x.wb t.id w hB hm i0 i1 hj)
    have e1 : (judgeI x.wh x.wb t.id != 0) = true := bne_iff_ne.mpr hj
    generalize judgeI x.wh x.wb t.id = j at *
    clear hj hm ht hcl a0 a1
    obtain ⟨s0, s1, s2, s3, s4, s5, s6, s7, t0, t1, t2, t3, t4, t5, t6, t7⟩ := hs
    obtain ⟨cl, id, am, tag⟩ := t
    unfold Tk.vals
    simp only at *
    go_enter Tryd.func77, Tryd.ntmps77
    go_wp2
    go_region_held3 (fun w' => w'.cell? ⟨s, 3, none⟩ = some (.int .i64 x.wh) ∧ w'.cell? ⟨s, 4, none⟩ = some (.int .u64 (x.wb : Int)) ∧ w'.cell? ⟨w.heap.size, 1, none⟩ = some (.int .i64 id)) (go_keep) (first | (go_at_call 115; refine (HT.out _).mono ?_; rintro e w1 ⟨rfl, hb1⟩; obtain ⟨bc, bf⟩ := bcell hb1; have hz1 := hb1.size; simp at hz1; have HB1 := Lib.hid (below_then' (show Below w.heap.size w _ from (blw_alloc (blw_alloc (Below.refl _ _) _) _).drew) hb1); have q3 : w1.cell? ⟨s, 3, none⟩ = some (.int .i64 x.wh) := (by rw [bc _ _ (by simp <;> omega)]; go_simp); have q4 : w1.cell? ⟨s, 4, none⟩ = some (.int .u64 (x.wb : Int)) := (by rw [bc _ _ (by simp <;> omega)]; go_simp); have p0 : w1.cell? ⟨w.heap.size, 0, none⟩ = some (.int .i64 cl) := (by rw [bc _ _ (by simp <;> omega)]; go_simp); have p1 : w1.cell? ⟨w.heap.size, 1, none⟩ = some (.int .i64 id) := (by rw [bc _ _ (by simp <;> omega)]; go_simp); have p2 : w1.cell? ⟨w.heap.size, 2, none⟩ = some (.int .i64 am) := (by rw [bc _ _ (by simp <;> omega)]; go_simp); have u0 : w1.cell? ⟨w.heap.size + 1, 0, none⟩ = some (.int .i64 0) := (by rw [bc _ _ (by simp <;> omega)]; go_simp); have u1 : w1.cell? ⟨w.heap.size + 1, 1, none⟩ = some (.int .u64 0) := (by rw [bc _ _ (by simp <;> omega)]; go_simp); have v0 : w1.frozen? ⟨w.heap.size + 1, 0, none⟩ = false := (by rw [bf _ _ (by simp <;> omega)]; go_simp); have v1 : w1.frozen? ⟨w.heap.size + 1, 1, none⟩ = false := (by rw [bf _ _ (by simp <;> omega)]; go_simp); have lt2 : w.heap.size + 1 < w1.heap.size := (by omega); have n1 : s ≠ w.heap.size + 1 := (by omega); have n2 : w.heap.size + 1 ≠ s := (by omega); have lt1 : w.heap.size < w1.heap.size := (by omega); clear hb1 bc bf) | (go_at_call 115; refine (HT.out _).mono ?_; rintro e w1 ⟨rfl, hb1⟩; obtain ⟨bc, bf⟩ := bcell hb1; have hz1 := hb1.size; simp at hz1; have HB1 := Lib.hid (below_then' (show Below w.heap.size w _ from (blw_alloc (Below.refl _ _) _).drew) hb1); have q3 : w1.cell? ⟨s, 3, none⟩ = some (.int .i64 x.wh) := (by rw [bc _ _ (by simp <;> omega)]; go_simp); have q4 : w1.cell? ⟨s, 4, none⟩ = some (.int .u64 (x.wb : Int)) := (by rw [bc _ _ (by simp <;> omega)]; go_simp); have p0 : w1.cell? ⟨w.heap.size, 0, none⟩ = some (.int .i64 cl) := (by rw [bc _ _ (by simp <;> omega)]; go_simp); have p1 : w1.cell? ⟨w.heap.size, 1, none⟩ = some (.int .i64 id) := (by rw [bc _ _ (by simp <;> omega)]; go_simp); have p2 : w1.cell? ⟨w.heap.size, 2, none⟩ = some (.int .i64 am) := (by rw [bc _ _ (by simp <;> omega)]; go_simp); have lt1 : w.heap.size < w1.heap.size := (by omega); clear hb1 bc bf))
    all_goals
      have HS1 := Lib.hid (HS.out.kept HB1.out hl)
      have ls : s < w1.heap.size := by omega
      obtain ⟨s0, s1, s2, s3, s4, s5, s6, s7, t0, t1, t2, t3, t4, t5, t6, t7⟩ := HS1.out
      go_wp2
      go_ret
      refine ⟨rfl, ?_, ?_⟩
      · constructor <;> go_simp
      · have hW := HB1.out.mono (Nat.le_of_lt hl)
        first
          | exact hW.alloc (by omega) _
          | exact (hW.setCell (p := ⟨w.heap.size + 1, 0, none⟩) (by simp; omega) _).setCell (p := ⟨w.heap.size + 1, 1, none⟩) (by simp; omega) _
end Go.Proofs.YtccjcdecpgigpaaDoor.Met
