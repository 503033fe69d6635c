/- The contract of book.Decode. -/
import Derived.Test.YtjlihpbnhojdgaaEv4
namespace Go.Proofs.Ytjlihpbnhojdgaa.Ev
open Go.RowKit Go.Proofs.Ytjlihpbnhojdgaa.Base Go.Proofs.Ytjlihpbnhojdgaa.Rcv
set_option linter.unusedVariables false
set_option linter.unusedSimpArgs false
set_option maxRecDepth 20000
def zeroEv : Ev := ⟨0, 0, 0, 0, 0, 0, 0, 0, 0, 0, 0, 0, 0⟩
/-- The event whose fields are these words. -/
def evOf (l : List UInt32) : Ev := ⟨((l.getD 0 0).toNat : Int), ((l.getD 1 0).toNat : Int), ((l.getD 2 0).toNat : Int), ((l.getD 3 0).toNat : Int), ((l.getD 4 0).toNat : Int), ((l.getD 5 0).toNat : Int), ((l.getD 6 0).toNat : Int), ((l.getD 7 0).toNat : Int), ((l.getD 8 0).toNat : Int), ((l.getD 9 0).toNat : Int), ((l.getD 10 0).toNat : Int), ((l.getD 11 0).toNat : Int), ((l.getD 12 0).toNat : Int)⟩
theorem evOf_l (l : List UInt32) (h : l.length = 13) : (evOf l).l = l.map fun n => Value.int .i64 (n.toNat : Int) := by
  match l, h with
  | [x0, x1, x2, x3, x4, x5, x6, x7, x8, x9, x10, x11, x12], _ => rfl
/-- What a loop has written behind k rounds. -/
def mixL (l : List UInt32) (k : Nat) : List Value := (l.take k).map (fun n => Value.int .i64 (n.toNat : Int)) ++ List.replicate (13 - k) (.int .i64 0)
theorem mixL_put (l : List UInt32) (k : Nat) (hk : k < 13) (hl : l.length = 13) (x : UInt32) (hx : l[k]? = some x) : mixL l (k + 1) = (mixL l k).set k (.int .i64 (x.toNat : Int)) := by
  unfold mixL
  have h1 : ((l.take k).map (fun n => Value.int .i64 (n.toNat : Int))).length = k := by simp; omega
  rw [List.take_add_one, hx, List.map_append, List.set_append, if_neg (by omega), h1, Nat.sub_self]
  obtain ⟨m, hm⟩ : ∃ m, 13 - k = m + 1 := ⟨12 - k, by omega⟩
  rw [hm, List.replicate_succ, List.set_cons_zero, show 13 - (k + 1) = m from by omega]
  simp
theorem mixL_len (l : List UInt32) (k : Nat) (hk : k ≤ 13) (hl : l.length = 13) : (mixL l k).length = 13 := by
  unfold mixL
  simp
  omega
theorem mixL_all (l : List UInt32) (hl : l.length = 13) : mixL l 13 = (evOf l).l := by
  rw [evOf_l l hl]
  unfold mixL
  rw [List.take_of_length_le (by omega)]
  simp
theorem cs_setCells (q : Nat) : ∀ (us : List Value) (o : Nat) (w : World) (vs : List Value), Cs w q vs → o + us.length = vs.length → Cs (w.setCells q o us) q (vs.take o ++ us)
  | [], o, w, vs, h, hl => by
    simp only [List.length_nil, Nat.add_zero] at hl
    rw [List.append_nil, hl, List.take_length]
    exact h
  | u :: r, o, w, vs, h, hl => by
    simp only [List.length_cons] at hl
    have h1 := cs_setCells q r (o + 1) (w.setCell ⟨q, o, none⟩ u) (vs.set o u) (h.put (by omega) rfl) (by simp; omega)
    have e : (vs.set o u).take (o + 1) ++ r = vs.take o ++ u :: r := by
      rw [List.take_add_one, List.take_set_of_le (Nat.le_refl o)]
      rw [List.getElem?_set_self (by omega)]
      simp
    rw [e] at h1
    exact h1
theorem cs_setCells_other (q p : Nat) (hqp : q ≠ p) : ∀ (us : List Value) (o : Nat) (w : World) (vs : List Value), Cs w p vs → Cs (w.setCells q o us) p vs
  | [], o, w, vs, h => h
  | u :: r, o, w, vs, h => cs_setCells_other q p hqp r (o + 1) _ vs (h.other (a := ⟨q, o, none⟩) hqp u)
theorem below_setCells {B b : Nat} (hb : B ≤ b) : ∀ (vs : List Value) (o : Nat) (w0 w : World), Below B w0 w → Below B w0 (w.setCells b o vs)
  | [], _, _, _, h => h
  | v :: r, o, w0, w, h => below_setCells hb r (o + 1) w0 _ (h.setCell (p := ⟨b, o, none⟩) hb v)
theorem zero13_facts (w : World) (q p : Nat) (vs us : List Value) (hv : Cs w q vs) (hl : vs.length = 13) (he : Cs w p us) (hpq : q ≠ p) (w0 : World) (hb : Below w0.heap.size w0 w) (hq : w0.heap.size ≤ q := by simp) :
    Cs (zero13 w q) q [.int .i64 0, .int .i64 0, .int .i64 0, .int .i64 0, .int .i64 0, .int .i64 0, .int .i64 0, .int .i64 0, .int .i64 0, .int .i64 0, .int .i64 0, .int .i64 0, .int .i64 0] ∧ Cs (zero13 w q) p us ∧ Below w0.heap.size w0 (zero13 w q) := by
  unfold zero13
  exact ⟨cs_setCells q _ 0 w vs hv (by simp [hl]), cs_setCells_other q p hpq _ 0 w us he, below_setCells hq _ 0 w0 w hb⟩
theorem same13 (w : World) (q p : Nat) (v0 v1 v2 v3 v4 v5 v6 v7 v8 v9 v10 v11 v12 : Value) (us : List Value) (w0 : World) (hv : Cs w q [v0, v1, v2, v3, v4, v5, v6, v7, v8, v9, v10, v11, v12]) (he : Cs w p us) (hpq : q ≠ p) (hb : Below w0.heap.size w0 w) (hq : w0.heap.size ≤ q) :
    Cs (((((((((((((w.setCell ⟨q, 0, none⟩ v0).setCell ⟨q, 1, none⟩ v1).setCell ⟨q, 2, none⟩ v2).setCell ⟨q, 3, none⟩ v3).setCell ⟨q, 4, none⟩ v4).setCell ⟨q, 5, none⟩ v5).setCell ⟨q, 6, none⟩ v6).setCell ⟨q, 7, none⟩ v7).setCell ⟨q, 8, none⟩ v8).setCell ⟨q, 9, none⟩ v9).setCell ⟨q, 10, none⟩ v10).setCell ⟨q, 11, none⟩ v11).setCell ⟨q, 12, none⟩ v12) q [v0, v1, v2, v3, v4, v5, v6, v7, v8, v9, v10, v11, v12] ∧ Cs (((((((((((((w.setCell ⟨q, 0, none⟩ v0).setCell ⟨q, 1, none⟩ v1).setCell ⟨q, 2, none⟩ v2).setCell ⟨q, 3, none⟩ v3).setCell ⟨q, 4, none⟩ v4).setCell ⟨q, 5, none⟩ v5).setCell ⟨q, 6, none⟩ v6).setCell ⟨q, 7, none⟩ v7).setCell ⟨q, 8, none⟩ v8).setCell ⟨q, 9, none⟩ v9).setCell ⟨q, 10, none⟩ v10).setCell ⟨q, 11, none⟩ v11).setCell ⟨q, 12, none⟩ v12) p us ∧ Below w0.heap.size w0 (((((((((((((w.setCell ⟨q, 0, none⟩ v0).setCell ⟨q, 1, none⟩ v1).setCell ⟨q, 2, none⟩ v2).setCell ⟨q, 3, none⟩ v3).setCell ⟨q, 4, none⟩ v4).setCell ⟨q, 5, none⟩ v5).setCell ⟨q, 6, none⟩ v6).setCell ⟨q, 7, none⟩ v7).setCell ⟨q, 8, none⟩ v8).setCell ⟨q, 9, none⟩ v9).setCell ⟨q, 10, none⟩ v10).setCell ⟨q, 11, none⟩ v11).setCell ⟨q, 12, none⟩ v12) := by
  have h1 := cs_setCells q [v0, v1, v2, v3, v4, v5, v6, v7, v8, v9, v10, v11, v12] 0 w _ hv rfl
  have h2 := cs_setCells_other q p hpq [v0, v1, v2, v3, v4, v5, v6, v7, v8, v9, v10, v11, v12] 0 w us he
  have h3 := below_setCells hq [v0, v1, v2, v3, v4, v5, v6, v7, v8, v9, v10, v11, v12] 0 w0 w hb
  exact ⟨h1, h2, h3⟩
set_option maxHeartbeats 4000000 in
theorem decode_size (l : List UInt32) (A : Option Addr) (q : Nat) (w : World) (hl : l.length ≠ 13) : Calls Try.prog 34 #[.slice A l.length q] w fun e w' => e = .returned (.tuple #[.agg zeroEv.l.toArray, .int .i64 1]) ∧ Below w.heap.size w w' := by
  have hmf : ∀ (fn : Fn) (first cap : Array Value) (w : World), (Instr.makeFunc fn first cap).run Try.prog w = .ok (.func fn first cap) w := fun _ _ _ _ => rfl
  have hn : ((l.length : Int) == 13) = false := beq_eq_false_iff_ne.mpr (by omega)
  generalize l.length = n at *
  clear hl
  go_enter_defers Try.func34, Try.ntmps34
  go_wp2_with fail
  go_at_call 62
  refine (want_no _ _).mono ?_
  rintro e w1 ⟨rfl, rfl⟩
  go_wp2_with fail
  refine leaves_cons (f := 61) (args := #[.pointer (some ⟨w.heap.size + 1, 0, none⟩), .pointer (some ⟨w.heap.size, 0, none⟩)]) (by simp) (by simp [go_sem]) ?_
  have CE := Lib.hid (show Cs ((w.alloc (.cells #[.int .i64 0, .int .i64 0, .int .i64 0, .int .i64 0, .int .i64 0, .int .i64 0, .int .i64 0, .int .i64 0, .int .i64 0, .int .i64 0, .int .i64 0, .int .i64 0, .int .i64 0] 78)).alloc (.cells #[.int .i64 0] 28)) (w.heap.size + 1) [.int .i64 0] from (by (repeat (first | (with_reducible refine Cs.new ?_; focus (first | rfl | (simp; done) | omega)) | with_reducible refine Cs.alloc ?_ _ | with_reducible refine Cs.drew ?_ | with_reducible refine Cs.drewN ?_ _ | (with_reducible refine Cs.other ?_ ?_ _; focus (first | omega | (simp; omega))) | with_reducible apply Cs.put)) <;> first | rfl | (simp; done)))
  have CV := Lib.hid (show Cs ((w.alloc (.cells #[.int .i64 0, .int .i64 0, .int .i64 0, .int .i64 0, .int .i64 0, .int .i64 0, .int .i64 0, .int .i64 0, .int .i64 0, .int .i64 0, .int .i64 0, .int .i64 0, .int .i64 0] 78)).alloc (.cells #[.int .i64 0] 28)) w.heap.size [.int .i64 0, .int .i64 0, .int .i64 0, .int .i64 0, .int .i64 0, .int .i64 0, .int .i64 0, .int .i64 0, .int .i64 0, .int .i64 0, .int .i64 0, .int .i64 0, .int .i64 0] from (by (repeat (first | (with_reducible refine Cs.new ?_; focus (first | rfl | (simp; done) | omega)) | with_reducible refine Cs.alloc ?_ _ | with_reducible refine Cs.drew ?_ | with_reducible refine Cs.drewN ?_ _ | (with_reducible refine Cs.other ?_ ?_ _; focus (first | omega | (simp; omega))) | with_reducible apply Cs.put)) <;> first | rfl | (simp; done)))
  refine (dec_catch _ _ 0 1 (by decide) _ (CE.out.at 0 rfl).1 (CE.out.at 0 rfl).2 [.int .i64 0, .int .i64 0, .int .i64 0, .int .i64 0, .int .i64 0, .int .i64 0, .int .i64 0, .int .i64 0, .int .i64 0, .int .i64 0, .int .i64 0, .int .i64 0, .int .i64 0] (by decide) CV.out (by omega) (by omega)).mono ?_
  rintro e u w2 ⟨rfl, rfl, w3, hb, rfl⟩
  have CV3 := Lib.hid (Cs.other (a := ⟨w.heap.size + 1, 0, none⟩) (by simp) (CV.out.after hb) (.int .i64 1))
  have CE3 := Lib.hid (Cs.put (v := .int .i64 1) (vs' := [.int .i64 1]) (CE.out.after hb) (i := 0) (by simp) rfl)
  have HB : Hid (Below w.heap.size w (w3.setCell ⟨w.heap.size + 1, 0, none⟩ (.int .i64 1))) := Lib.hid ((below_then' (by repeat (first | with_reducible exact Below.refl _ _ | with_reducible refine blw_alloc ?_ _)) hb).setCell (p := ⟨w.heap.size + 1, 0, none⟩) (by simp) _)
  clear hb CV CE
  generalize w3.setCell ⟨w.heap.size + 1, 0, none⟩ (.int .i64 1) = w4 at *
  obtain ⟨hz, he, hb⟩ := zero13_facts w4 w.heap.size (w.heap.size + 1) _ _ CV3.out rfl CE3.out (by omega) w HB.out
  have c0 := (he.at 0 rfl).1
  have d0 := (hz.at 0 rfl).1
  have d1 := (hz.at 1 rfl).1
  have d2 := (hz.at 2 rfl).1
  have d3 := (hz.at 3 rfl).1
  have d4 := (hz.at 4 rfl).1
  have d5 := (hz.at 5 rfl).1
  have d6 := (hz.at 6 rfl).1
  have d7 := (hz.at 7 rfl).1
  have d8 := (hz.at 8 rfl).1
  have d9 := (hz.at 9 rfl).1
  have d10 := (hz.at 10 rfl).1
  have d11 := (hz.at 11 rfl).1
  have d12 := (hz.at 12 rfl).1
  generalize zero13 w4 w.heap.size = w5 at *
  simp [Leaves, settle, results, Try.results34, go_sem, c0, d0, d1, d2, d3, d4, d5, d6, d7, d8, d9, d10, d11, d12]
  exact ⟨rfl, hb⟩
set_option maxHeartbeats 4000000 in
theorem decode_any (l : List UInt32) (A : Option Addr) (q : Nat) (w : World) (hr : RdE 1 encW w A l) (hl : l.length = 13) : Calls Try.prog 34 #[.slice A l.length q] w fun e w' => e = .returned (.tuple #[.agg (if okE (evOf l) then evOf l else zeroEv).l.toArray, .int .i64 (if okE (evOf l) then 0 else 5)]) ∧ Below w.heap.size w w' := by
  have hmf : ∀ (fn : Fn) (first cap : Array Value) (w : World), (Instr.makeFunc fn first cap).run Try.prog w = .ok (.func fn first cap) w := fun _ _ _ _ => rfl
  have HR := Lib.hid hr
  have HL := Lib.hid hl
  have hln := hl
  clear hr hl
  rw [hln]
  clear hln
  obtain ⟨v, hv⟩ : ∃ v, v = evOf l := ⟨_, rfl⟩
  rw [← hv]
  have HC := Lib.hid (fun W => check_any v W)
  obtain ⟨k, me, mo, id, te, de, fe, pr, ch, un, tag, ow, bp⟩ := v
  have HEV := Lib.hid hv
  clear hv
  unfold Ev.l at HC
  simp only at HC
  go_enter_defers Try.func34, Try.ntmps34
  go_wp2_with fail
  go_at_call 62
  refine (want_yes _ _).mono ?_
  rintro e w1 ⟨rfl, rfl⟩
  go_wp2_with fail
  go_at_call 60
  refine (ptrs_any _ _).mono ?_
  rintro e w2 ⟨⟨Q, rfl, hQ, hq⟩, hb⟩
  have CE2 := Lib.hid ((show Cs _ (w.heap.size + 1) [.int .i64 0] from (by (repeat (first | (with_reducible refine Cs.new ?_; focus (first | rfl | (simp; done) | omega)) | with_reducible refine Cs.alloc ?_ _ | with_reducible refine Cs.drew ?_ | with_reducible refine Cs.drewN ?_ _ | (with_reducible refine Cs.other ?_ ?_ _; focus (first | omega | (simp; omega))) | with_reducible apply Cs.put)) <;> first | rfl | (simp; done))).after hb)
  have CV2 := Lib.hid ((show Cs _ w.heap.size [.int .i64 0, .int .i64 0, .int .i64 0, .int .i64 0, .int .i64 0, .int .i64 0, .int .i64 0, .int .i64 0, .int .i64 0, .int .i64 0, .int .i64 0, .int .i64 0, .int .i64 0] from (by (repeat (first | (with_reducible refine Cs.new ?_; focus (first | rfl | (simp; done) | omega)) | with_reducible refine Cs.alloc ?_ _ | with_reducible refine Cs.drew ?_ | with_reducible refine Cs.drewN ?_ _ | (with_reducible refine Cs.other ?_ ?_ _; focus (first | omega | (simp; omega))) | with_reducible apply Cs.put)) <;> first | rfl | (simp; done))).after hb)
  have HB2 : Hid (Below w.heap.size w w2) := Lib.hid (below_then' (by repeat (first | with_reducible exact Below.refl _ _ | with_reducible refine blw_alloc ?_ _)) hb)
  have hz2 := hb.size
  simp at hz2
  have HQ := Lib.hid hq
  clear hb hq
  go_wp2_with fail
  go_loopw [12] (fun i wr => ∃ j : Nat, j ≤ 13 ∧ i = .int .i64 j ∧ Cs wr w.heap.size (mixL l j) ∧ Cs wr (w.heap.size + 1) [.int .i64 0] ∧ Below w.heap.size w wr) (fun i _ => 13 - (intOf i).toNat)
  case atStart => exact ⟨0, by omega, rfl, CV2.out, CE2.out, HB2.out⟩
  case round =>
    obtain ⟨j, hj, rfl, hcv, hce, hb⟩ := hrel
    have CV := Lib.hid hcv
    have CE := Lib.hid hce
    have HB := Lib.hid hb
    have hzr := hb.size
    have lv := hcv.1
    clear hcv hce hb
    by_cases hlt : j < 13
    · have hqj := HQ.out j hlt
      have hix := index_ptr Q j hlt _ hqj
      have hll := HL.out
      obtain ⟨x, hx⟩ : ∃ x, l[j]? = some x := ⟨l[j], List.getElem?_eq_getElem (by omega)⟩
      obtain ⟨ad, rfl, hc⟩ := (HR.out.below (HB.out)).at1 j (by omega) (.int .u32 (x.toNat : Int)) (by rw [List.getElem?_eq_getElem (by omega)] at hx; simp at hx; rw [hx]; rfl)
      have hln := mixL_len l j hj hll
      obtain ⟨y, hy⟩ : ∃ y, (mixL l j)[j]? = some y := ⟨(mixL l j)[j], List.getElem?_eq_getElem (by omega)⟩
      have cv := (CV.out.at j hy).1
      have cf := (CV.out.at j hy).2
      have hx32 := x.toNat_lt
      clear hqj hll hln
      have HX := Lib.hid hx
      clear hx hy
      go_wp2_with fail
      go_roundw
      case rel =>
        refine ⟨j + 1, by omega, by go_num, ?_, Cs.other (a := ⟨w.heap.size, j, none⟩) (by simp) CE.out _, HB.out.setCell (p := ⟨w.heap.size, j, none⟩) (Nat.le_refl _) _⟩
        rw [mixL_put l j hlt HL.out x HX.out]
        exact Cs.put CV.out (by rw [mixL_len l j hj HL.out]; exact hlt) rfl
      case measure => simp [intOf]; omega
    · obtain rfl : j = 13 := by omega
      clear hlt HR HQ hQ CE2 CV2 HB2
      rw [mixL_all l HL.out] at CV
      rw [← HEV.out] at CV
      clear HL
      unfold Ev.l at CV
      simp only at CV
      have vc0 := (CV.out.at 0 rfl).1
      have vc1 := (CV.out.at 1 rfl).1
      have vc2 := (CV.out.at 2 rfl).1
      have vc3 := (CV.out.at 3 rfl).1
      have vc4 := (CV.out.at 4 rfl).1
      have vc5 := (CV.out.at 5 rfl).1
      have vc6 := (CV.out.at 6 rfl).1
      have vc7 := (CV.out.at 7 rfl).1
      have vc8 := (CV.out.at 8 rfl).1
      have vc9 := (CV.out.at 9 rfl).1
      have vc10 := (CV.out.at 10 rfl).1
      have vc11 := (CV.out.at 11 rfl).1
      have vc12 := (CV.out.at 12 rfl).1
      go_wp2_with fail
      go_at_call 59
      refine (HC.out _).mono ?_
      rintro e w1 ⟨⟨hv, rfl⟩ | ⟨hv, rfl⟩, hb⟩
      · have CV1 := Lib.hid (CV.out.after hb)
        have CE1 := Lib.hid (CE.out.after hb)
        have HB1 := Lib.hid (below_then' HB.out hb)
        have HV := Lib.hid hv
        have lv1 := CV1.out.1
        have le1 := CE1.out.1
        clear hb hv HC CV CE HB vc0 vc1 vc2 vc3 vc4 vc5 vc6 vc7 vc8 vc9 vc10 vc11 vc12 lv
        have vc0 := (CV1.out.at 0 rfl).1
        have vf0 := (CV1.out.at 0 rfl).2
        have vc1 := (CV1.out.at 1 rfl).1
        have vf1 := (CV1.out.at 1 rfl).2
        have vc2 := (CV1.out.at 2 rfl).1
        have vf2 := (CV1.out.at 2 rfl).2
        have vc3 := (CV1.out.at 3 rfl).1
        have vf3 := (CV1.out.at 3 rfl).2
        have vc4 := (CV1.out.at 4 rfl).1
        have vf4 := (CV1.out.at 4 rfl).2
        have vc5 := (CV1.out.at 5 rfl).1
        have vf5 := (CV1.out.at 5 rfl).2
        have vc6 := (CV1.out.at 6 rfl).1
        have vf6 := (CV1.out.at 6 rfl).2
        have vc7 := (CV1.out.at 7 rfl).1
        have vf7 := (CV1.out.at 7 rfl).2
        have vc8 := (CV1.out.at 8 rfl).1
        have vf8 := (CV1.out.at 8 rfl).2
        have vc9 := (CV1.out.at 9 rfl).1
        have vf9 := (CV1.out.at 9 rfl).2
        have vc10 := (CV1.out.at 10 rfl).1
        have vf10 := (CV1.out.at 10 rfl).2
        have vc11 := (CV1.out.at 11 rfl).1
        have vf11 := (CV1.out.at 11 rfl).2
        have vc12 := (CV1.out.at 12 rfl).1
        have vf12 := (CV1.out.at 12 rfl).2
        have ce := (CE1.out.at 0 rfl).1
        have cf := (CE1.out.at 0 rfl).2
        go_wp2_with fail
        refine leaves_cons (f := 61) (args := #[.pointer (some ⟨w.heap.size + 1, 0, none⟩), .pointer (some ⟨w.heap.size, 0, none⟩)]) (by simp) (by simp [go_sem]) ?_
        obtain ⟨hz, he, hb⟩ := same13 w1 w.heap.size (w.heap.size + 1) _ _ _ _ _ _ _ _ _ _ _ _ _ _ w CV1.out CE1.out (by omega) HB1.out (Nat.le_refl _)
        generalize hw5 : (((((((((((((w1.setCell ⟨w.heap.size, 0, none⟩ (.int .i64 k)).setCell ⟨w.heap.size, 1, none⟩ (.int .i64 me)).setCell ⟨w.heap.size, 2, none⟩ (.int .i64 mo)).setCell ⟨w.heap.size, 3, none⟩ (.int .i64 id)).setCell ⟨w.heap.size, 4, none⟩ (.int .i64 te)).setCell ⟨w.heap.size, 5, none⟩ (.int .i64 de)).setCell ⟨w.heap.size, 6, none⟩ (.int .i64 fe)).setCell ⟨w.heap.size, 7, none⟩ (.int .i64 pr)).setCell ⟨w.heap.size, 8, none⟩ (.int .i64 ch)).setCell ⟨w.heap.size, 9, none⟩ (.int .i64 un)).setCell ⟨w.heap.size, 10, none⟩ (.int .i64 tag)).setCell ⟨w.heap.size, 11, none⟩ (.int .i64 ow)).setCell ⟨w.heap.size, 12, none⟩ (.int .i64 bp)) = w5 at *
        clear hw5
        have CE4 := Lib.hid (Cs.put (v := .int .i64 0) (vs' := [.int .i64 0]) he (i := 0) (by simp) rfl)
        have CV4 := Lib.hid (Cs.other (a := ⟨w.heap.size + 1, 0, none⟩) (by simp) hz (.int .i64 0))
        have HB4 := Lib.hid (hb.setCell (p := ⟨w.heap.size + 1, 0, none⟩) (by simp) (.int .i64 0))
        refine (dec_idle _ _ _ (CE4.out.at 0 rfl).1 (CE4.out.at 0 rfl).2).mono ?_
        rintro e u w6 ⟨rfl, rfl, rfl⟩
        have CE5 := Lib.hid (Cs.put (v := .int .i64 0) (vs' := [.int .i64 0]) CE4.out (i := 0) (by simp) rfl).drew
        have CV5 := Lib.hid (Cs.other (a := ⟨w.heap.size + 1, 0, none⟩) (by simp) CV4.out (.int .i64 0)).drew
        have HB5 := Lib.hid (HB4.out.setCell (p := ⟨w.heap.size + 1, 0, none⟩) (by simp) (.int .i64 0)).drew
        generalize (((w5.setCell ⟨w.heap.size + 1, 0, none⟩ (.int .i64 0)).setCell ⟨w.heap.size + 1, 0, none⟩ (.int .i64 0)).drew) = w7 at *
        have c0 := (CE5.out.at 0 rfl).1
        have d0 := (CV5.out.at 0 rfl).1
        have d1 := (CV5.out.at 1 rfl).1
        have d2 := (CV5.out.at 2 rfl).1
        have d3 := (CV5.out.at 3 rfl).1
        have d4 := (CV5.out.at 4 rfl).1
        have d5 := (CV5.out.at 5 rfl).1
        have d6 := (CV5.out.at 6 rfl).1
        have d7 := (CV5.out.at 7 rfl).1
        have d8 := (CV5.out.at 8 rfl).1
        have d9 := (CV5.out.at 9 rfl).1
        have d10 := (CV5.out.at 10 rfl).1
        have d11 := (CV5.out.at 11 rfl).1
        have d12 := (CV5.out.at 12 rfl).1
        simp [Leaves, settle, results, Try.results34, go_sem, c0, d0, d1, d2, d3, d4, d5, d6, d7, d8, d9, d10, d11, d12, if_pos HV.out]
        exact ⟨rfl, HB5.out⟩
      · have CV1 := Lib.hid (CV.out.after hb)
        have CE1 := Lib.hid (CE.out.after hb)
        have HB1 := Lib.hid (below_then' HB.out hb)
        have HV := Lib.hid hv
        clear hb hv HC CV CE HB vc0 vc1 vc2 vc3 vc4 vc5 vc6 vc7 vc8 vc9 vc10 vc11 vc12
        go_wp2_with fail
        refine leaves_cons (f := 61) (args := #[.pointer (some ⟨w.heap.size + 1, 0, none⟩), .pointer (some ⟨w.heap.size, 0, none⟩)]) (by simp) (by simp [go_sem]) ?_
        refine (dec_catch _ _ 0 5 (by decide) _ (CE1.out.at 0 rfl).1 (CE1.out.at 0 rfl).2 [.int .i64 k, .int .i64 me, .int .i64 mo, .int .i64 id, .int .i64 te, .int .i64 de, .int .i64 fe, .int .i64 pr, .int .i64 ch, .int .i64 un, .int .i64 tag, .int .i64 ow, .int .i64 bp] rfl CV1.out (by omega) (by omega)).mono ?_
        rintro e u w2 ⟨rfl, rfl, w3, hb, rfl⟩
        have CV3 := Lib.hid (Cs.other (a := ⟨w.heap.size + 1, 0, none⟩) (by simp) (CV1.out.after hb) (.int .i64 5))
        have CE3 := Lib.hid (Cs.put (v := .int .i64 5) (vs' := [.int .i64 5]) (CE1.out.after hb) (i := 0) (by simp) rfl)
        have HB : Hid (Below w.heap.size w (w3.setCell ⟨w.heap.size + 1, 0, none⟩ (.int .i64 5))) := Lib.hid ((below_then' HB1.out hb).setCell (p := ⟨w.heap.size + 1, 0, none⟩) (by simp) _)
        clear hb
        generalize w3.setCell ⟨w.heap.size + 1, 0, none⟩ (.int .i64 5) = w4 at *
        obtain ⟨hz, he, hb⟩ := zero13_facts w4 w.heap.size (w.heap.size + 1) _ _ CV3.out rfl CE3.out (by omega) w HB.out
        have c0 := (he.at 0 rfl).1
        have d0 := (hz.at 0 rfl).1
        have d1 := (hz.at 1 rfl).1
        have d2 := (hz.at 2 rfl).1
        have d3 := (hz.at 3 rfl).1
        have d4 := (hz.at 4 rfl).1
        have d5 := (hz.at 5 rfl).1
        have d6 := (hz.at 6 rfl).1
        have d7 := (hz.at 7 rfl).1
        have d8 := (hz.at 8 rfl).1
        have d9 := (hz.at 9 rfl).1
        have d10 := (hz.at 10 rfl).1
        have d11 := (hz.at 11 rfl).1
        have d12 := (hz.at 12 rfl).1
        generalize zero13 w4 w.heap.size = w5 at *
        simp [Leaves, settle, results, Try.results34, go_sem, c0, d0, d1, d2, d3, d4, d5, d6, d7, d8, d9, d10, d11, d12, if_neg HV.out]
        exact ⟨rfl, hb⟩
end Go.Proofs.Ytjlihpbnhojdgaa.Ev
