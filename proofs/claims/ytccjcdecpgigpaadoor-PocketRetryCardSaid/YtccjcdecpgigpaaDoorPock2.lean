/- Pocket: equality of meters; contracts of moved, Keyed, Ticked. -/
import Derived.Test.YtccjcdecpgigpaaDoorPock
import Derived.Test.YtccjcdecpgigpaaDoorSlot2
import Derived.Test.YtccjcdecpgigpaaDoorKey
import Derived.Test.YtccjcdecpgigpaaDoorMet5
import Derived.Test.YtccjcdecpgigpaaDoorTick
import Derived.Test.YtccjcdecpgigpaaDoorTokQ
namespace Go.Proofs.YtccjcdecpgigpaaDoor.Pock
open Go Go.RowKit Go.Proofs.YtccjcdecpgigpaaDoor.Base Go.Proofs.YtccjcdecpgigpaaDoor.Met Go.Proofs.YtccjcdecpgigpaaDoor.Win Go.Proofs.YtccjcdecpgigpaaDoor.Cell Go.Proofs.YtccjcdecpgigpaaDoor.Orc Go.Proofs.YtccjcdecpgigpaaDoor.Tok
set_option linter.unusedVariables false
set_option linter.unusedSimpArgs false
set_option maxRecDepth 20000
def eqM (x y : Mt) : Bool := decide (x.me = y.me ∧ x.rev = y.rev ∧ x.cr = y.cr ∧ x.wh = y.wh ∧ x.wb = y.wb ∧ x.bad = y.bad ∧ x.lock = y.lock)
theorem eqM_iff (x y : Mt) : eqM x y = true ↔ x = y := by
  unfold eqM
  rw [decide_eq_true_iff]
  cases x; cases y
  simp
theorem eql_mt (a0 a1 a2 a3 a5 a6 b0 b1 b2 b3 b5 b6 : Int) (a4 b4 : Nat) (w : World) : (Op.equalIn 10000 40 (.agg #[.int .i64 a0, .int .i64 a1, .int .i64 a2, .int .i64 a3, .int .u64 (a4 : Int), .int .i64 a5, .int .i64 a6]) (.agg #[.int .i64 b0, .int .i64 b1, .int .i64 b2, .int .i64 b3, .int .u64 (b4 : Int), .int .i64 b5, .int .i64 b6])).run Tryd.prog w = .ok (decide (a0 = b0 ∧ a1 = b1 ∧ a2 = b2 ∧ a3 = b3 ∧ a4 = b4 ∧ a5 = b5 ∧ a6 = b6)) w := by
  simp only [Bool.decide_and]
  simp [go_sem]
  by_cases h0 : a0 = b0
  case neg => simp [h0]
  case pos =>
  subst h0
  simp only [if_true, decide_true, Bool.true_and]
  by_cases h1 : a1 = b1
  case neg => simp [h1]
  case pos =>
  subst h1
  simp only [if_true, decide_true, Bool.true_and]
  by_cases h2 : a2 = b2
  case neg => simp [h2]
  case pos =>
  subst h2
  simp only [if_true, decide_true, Bool.true_and]
  by_cases h3 : a3 = b3
  case neg => simp [h3]
  case pos =>
  subst h3
  simp only [if_true, decide_true, Bool.true_and]
  by_cases h4 : a4 = b4
  case neg => simp [h4, show ¬ ((a4 : Int) = (b4 : Int)) by omega]
  case pos =>
  subst h4
  simp only [if_true, decide_true, Bool.true_and]
  by_cases h5 : a5 = b5
  case neg => simp [h5]
  case pos =>
  subst h5
  simp only [if_true, decide_true, Bool.true_and]
  by_cases h6 : a6 = b6 <;> simp [h6]
theorem run_eql (x y : Mt) (w : World) : (Op.equalIn 10000 40 (.agg x.vals) (.agg y.vals)).run Tryd.prog w = .ok (eqM x y) w := eql_mt _ _ _ _ _ _ _ _ _ _ _ _ _ _ w
/-- The writes that make a meter another one. -/
def movedW (c : List UInt32) (s : Nat) (old next : Mt) : List Wr := if eqM old next then [] else storeW 5 s (markN c 5 s) (wordsL next)
set_option maxHeartbeats 4000000 in
theorem moved_any (c : List UInt32) (old next : Mt) (s : Nat) (A : Option Addr) (q : Nat) (w : World) (hc : RdE 1 encW w A c) (hk : Pk c old) (hs : newerN (markN c 5 0) (markN c 5 1) = some s) (ok : next.ok) (hm : mmay next = true) :
    Calls Tryd.prog 51 #[.slice A c.length q, .agg old.vals, .agg next.vals] w fun e w' => ∃ B p, e = .returned (.slice B (movedW c s old next).length p) ∧ OwWr w.heap.size w' B p (movedW c s old next) ∧ Below w.heap.size w w' := by
  have HW := Lib.hid (fun W => words_yes next W ok hm)
  have HS := Lib.hid (fun D d W hW hr => store_any c (wordsL old) (wordsL next) 5 s A D q d W hW hr hk.hold hs (by decide) (by decide) (words_len next))
  have HC := Lib.hid hc
  have HEQ := fun W => run_eql old next W
  unfold movedW
  cases he : eqM old next with
  | true =>
    rw [if_pos rfl]
    rw [he] at HEQ
    obtain ⟨a0, a1, a2, a3, a4, a5, a6⟩ := old
    obtain ⟨b0, b1, b2, b3, b4, b5, b6⟩ := next
    unfold Mt.vals at *
    simp only at HEQ ⊢
    clear hc hk hs ok hm he HW HS
    go_enter Tryd.func51, Tryd.ntmps51
    go_wp2_with fail
    go_ret
    exact ⟨none, 0, rfl, World.ownsRow_nil _ _ _ _, blw_alloc (blw_alloc (Below.refl _ _) _) _⟩
  | false =>
    rw [if_neg (by simp)]
    rw [he] at HEQ
    generalize storeW 5 s (markN c 5 s) (wordsL next) = SW at *
    generalize wordsL next = L at *
    obtain ⟨a0, a1, a2, a3, a4, a5, a6⟩ := old
    obtain ⟨b0, b1, b2, b3, b4, b5, b6⟩ := next
    unfold Mt.vals at *
    simp only at HEQ HW ⊢
    clear hc hk hs ok hm he
    go_enter Tryd.func51, Tryd.ntmps51
    go_wp2_with fail
    go_at_call 45
    refine (HW.out _).mono ?_
    rintro e w1 ⟨D, d, rfl, ho, hb⟩
    have HB1 : Hid (Below w.heap.size w w1) := Lib.hid (below_then' (blw_alloc (blw_alloc (Below.refl _ _) _) _) hb)
    have HO := Lib.hid ho.read
    clear hb ho
    go_wp2_with fail
    go_at_call 99
    refine (HS.out _ _ _ (HC.out.below HB1.out) HO.out).mono ?_
    rintro e w2 ⟨B, p, rfl, ho, hb⟩
    have HB2 : Hid (Below w.heap.size w w2) := Lib.hid (below_then' HB1.out hb)
    have hs1 := HB1.out.size
    have HO2 : Hid (OwWr w.heap.size w2 B p SW) := Lib.hid (Win.own_mono ho hs1)
    clear hb ho
    go_wp2_with fail
    go_ret
    exact ⟨B, p, rfl, HO2.out, HB2.out⟩
/-- What a key stroke of a token does: the meter, what was added, the code. -/
def keyedR (m : Mt) (ps : List Pr) (text : List UInt8) : Mt × Int × Int := if parseE text = 0 then keyR m ps (parseT text) else (m, 0, parseE text)
theorem sold_code (x : Mt) (ps : List Pr) (body tag : Int) : soldI x ps body tag = 0 ∨ soldI x ps body tag = 11 ∨ soldI x ps body tag = 12 := by
  unfold soldI
  split
  · exact .inr (.inr rfl)
  · split
    · exact .inr (.inl rfl)
    · exact .inl rfl
theorem judge_code (h : Int) (B : Nat) (id : Int) : judgeI h B id = 0 ∨ judgeI h B id = 13 ∨ judgeI h B id = 14 := by
  unfold judgeI
  split
  · exact .inr (.inl rfl)
  · split
    · exact .inr (.inr rfl)
    · exact .inl rfl
theorem does_code (x : Mt) (t : Tk) (ad : Int) : (doesR x t ad).2.2 = 0 ∨ (doesR x t ad).2.2 = 15 ∨ (doesR x t ad).2.2 = 24 := by
  unfold doesR
  split
  · exact .inl rfl
  · split
    · split
      · exact .inr (.inr rfl)
      · exact .inl rfl
    · split
      · exact .inr (.inl rfl)
      · exact .inl rfl
theorem fault_code (t : Tk) : faultI t = 0 ∨ faultI t = 2 ∨ faultI t = 9 := by
  unfold faultI
  split
  · split
    · exact .inl rfl
    · exact .inr (.inl rfl)
  · exact .inr (.inr rfl)
/-- Key never answers that the state may not be, where it may. -/
theorem key_code (x : Mt) (ps : List Pr) (t : Tk) : (keyR x ps t).2.2 ≠ 5 := by
  unfold keyR
  by_cases h1 : faultI t ≠ 0
  · rw [if_pos h1]
    show faultI t ≠ 5
    have := fault_code t
    omega
  · rw [if_neg h1]
    by_cases h2 : 0 < x.lock
    · rw [if_pos h2]; show (10 : Int) ≠ 5; decide
    · rw [if_neg h2]
      by_cases h3 : t.cl = 3
      · rw [if_pos h3]; show (0 : Int) ≠ 5; decide
      · rw [if_neg h3]
        by_cases h4 : soldI x ps (bodyI t) t.tag ≠ 0
        · rw [if_pos h4]
          show soldI x ps (bodyI t) t.tag ≠ 5
          have := sold_code x ps (bodyI t) t.tag
          omega
        · rw [if_neg h4]
          unfold takeR
          split
          · split
            · show (0 : Int) ≠ 5; decide
            · have := does_code x t 0
              omega
          · show judgeI x.wh x.wb t.id ≠ 5
            have := judge_code x.wh x.wb t.id
            omega
theorem inv_of {h : Int} {B : Nat} (hm : wmay h B = true) (hB : B < 18446744073709551616) : InvW h B (upL h B 64) where
  may := hm
  lt := hB
  bit := fun i hi => by
    rw [upL_mem]
    constructor
    · intro hb
      exact ⟨i, hi, hb, rfl⟩
    · rintro ⟨j, hj, hb, e⟩
      have : i = j := by omega
      rw [this]; exact hb
  rng := fun x hx => by
    obtain ⟨i, hi, hb, rfl⟩ := (upL_mem h B x 64).1 hx
    rcases wmay_nonneg hm with ⟨rfl, rfl⟩ | h1
    · simp at hb
    · obtain ⟨_, _, h4⟩ := wmay_pos hm h1
      have hlt : i < min h.toNat 64 := by
        rcases Nat.lt_or_ge i (min h.toNat 64) with h5 | h5
        · exact h5
        · have : B.testBit i = false := Nat.testBit_lt_two_pow (Nat.lt_of_lt_of_le h4 (Nat.pow_le_pow_right (by decide) h5))
          rw [this] at hb; cases hb
      omega
theorem take_hi {h : Int} {B : Nat} {id : Int} (hm : wmay h B = true) (hB : B < 18446744073709551616) (hj : judgeI h B id = 0) (i0 : 1 ≤ id) (i1 : id ≤ 1048575) : wmay (takeH h id) (takeB h B id) = true ∧ takeB h B id < 18446744073709551616 :=
  have H := inv_take (inv_of hm hB) id i0 i1 hj
  ⟨H.may, H.lt⟩
theorem key_keep (x : Mt) (ps : List Pr) (t : Tk) (ok : x.ok) (hm : mmay x = true) : (keyR x ps t).1.ok ∧ mmay (keyR x ps t).1 = true := by
  obtain ⟨h1, h2, h3⟩ := Met.mmay_lim hm
  have hB : x.wb < 18446744073709551616 := ok.2.1.2
  suffices h : (keyR x ps t).1.c1 ∧ (keyR x ps t).1.c2 ∧ wmay (keyR x ps t).1.wh (keyR x ps t).1.wb = true ∧ (keyR x ps t).1.wb < 18446744073709551616 from ⟨ok_of h.1 h.2.1 h.2.2.1 h.2.2.2, mmay_of h.1 h.2.1 h.2.2.1⟩
  have same : x.c1 ∧ x.c2 ∧ wmay x.wh x.wb = true ∧ x.wb < 18446744073709551616 := ⟨h1, h2, h3, hB⟩
  unfold keyR
  by_cases e1 : faultI t ≠ 0
  · rw [if_pos e1]; exact same
  rw [if_neg e1]
  by_cases e2 : 0 < x.lock
  · rw [if_pos e2]; exact same
  rw [if_neg e2]
  by_cases e3 : t.cl = 3
  · rw [if_pos e3]; exact same
  rw [if_neg e3]
  have hg : faultI t = 0 := by omega
  obtain ⟨_, ⟨i0, i1⟩, ⟨m0, m1⟩, _⟩ := fault_ok hg
  have hl0 : x.lock = 0 := by have := h2.2.1.1; omega
  by_cases e4 : soldI x ps (bodyI t) t.tag ≠ 0
  · rw [if_pos e4]
    show (soldM x _).c1 ∧ (soldM x _).c2 ∧ wmay (soldM x _).wh (soldM x _).wb = true ∧ (soldM x _).wb < 18446744073709551616
    unfold soldM badM
    split
    · split
      · exact ⟨h1, ⟨⟨by show (0 : Int) ≤ 0; omega, by show (0 : Int) < 5; omega⟩, ⟨by show (0 : Int) ≤ 30; omega, by show (30 : Int) ≤ 30; omega⟩, fun h => by have h5 : (0 : Int) < 0 := h.1; omega⟩, h3, hB⟩
      · rename_i h5
        exact ⟨h1, ⟨⟨by have := h2.1.1; show 0 ≤ x.bad + 1; omega, by have := h2.1.2; show x.bad + 1 < 5; omega⟩, h2.2.1, fun h => by have h6 : 0 < x.lock := h.2; omega⟩, h3, hB⟩
    · exact same
  · rw [if_neg e4]
    unfold takeR
    by_cases hj : judgeI x.wh x.wb t.id = 0
    · rw [if_pos hj]
      obtain ⟨w1, w2⟩ := take_hi h3 hB hj i0 i1
      by_cases hd : (doesR x t 0).2.2 = 0
      · rw [if_pos hd]
        show ({ (doesR x t 0).1 with wh := takeH x.wh t.id, wb := takeB x.wh x.wb t.id, bad := 0 } : Mt).c1 ∧ ({ (doesR x t 0).1 with wh := takeH x.wh t.id, wb := takeB x.wh x.wb t.id, bad := 0 } : Mt).c2 ∧ wmay (takeH x.wh t.id) (takeB x.wh x.wb t.id) = true ∧ takeB x.wh x.wb t.id < 18446744073709551616
        have hc2 : ∀ m : Mt, m.lock = x.lock → ({ m with wh := takeH x.wh t.id, wb := takeB x.wh x.wb t.id, bad := 0 } : Mt).c2 := fun m hm => ⟨⟨by show (0 : Int) ≤ 0; omega, by show (0 : Int) < 5; omega⟩, by show 0 ≤ m.lock ∧ m.lock ≤ 30; omega, fun h => by have h5 : (0 : Int) < 0 := h.1; omega⟩
        refine ⟨?_, ?_, w1, w2⟩
        · unfold doesR at hd ⊢
          obtain ⟨⟨a0, a1⟩, ⟨b0, b1⟩, c0, c1⟩ := h1
          split
          · exact ⟨⟨a0, a1⟩, ⟨b0, b1⟩, by show (0 : Int) ≤ 0; omega, by show (0 : Int) ≤ 99999999; omega⟩
          · rename_i n1
            rw [if_neg n1] at hd
            split
            · rename_i n2
              rw [if_pos n2] at hd
              split
              · rename_i n3
                rw [if_pos n3] at hd
                simp at hd
              · refine ⟨⟨a0, a1⟩, ⟨?_, ?_⟩, c0, c1⟩
                · show 0 ≤ t.am
                  rename_i n3; omega
                · show t.am ≤ 15
                  rw [n2] at m1
                  have : amHi 2 = 15 := rfl
                  omega
            · rename_i n2
              rw [if_neg n2] at hd
              split
              · rename_i n3
                rw [if_pos n3] at hd
                simp at hd
              · rename_i n3
                refine ⟨⟨a0, a1⟩, ⟨b0, b1⟩, ?_, ?_⟩
                · show 0 ≤ x.cr + t.am
                  have l0 : 0 ≤ amLo t.cl := by unfold amLo; split <;> omega
                  omega
                · show x.cr + t.am ≤ 99999999
                  omega
        · refine hc2 _ ?_
          unfold doesR
          split
          · rfl
          · split
            · split <;> rfl
            · split <;> rfl
      · rw [if_neg hd]
        unfold doesR at hd ⊢
        split
        · rename_i n1; rw [if_pos n1] at hd; simp at hd
        · rename_i n1
          rw [if_neg n1] at hd
          split
          · rename_i n2
            rw [if_pos n2] at hd
            split
            · exact same
            · rename_i n3; rw [if_neg n3] at hd; simp at hd
          · rename_i n2
            rw [if_neg n2] at hd
            split
            · exact same
            · rename_i n3; rw [if_neg n3] at hd; simp at hd
    · rw [if_neg hj]; exact same
theorem keyed_keep (m : Mt) (ps : List Pr) (text : List UInt8) (ok : m.ok) (hm : mmay m = true) : (keyedR m ps text).1.ok ∧ mmay (keyedR m ps text).1 = true := by
  unfold keyedR
  split
  · exact key_keep m ps _ ok hm
  · exact ⟨ok, hm⟩
set_option maxHeartbeats 8000000 in
theorem Keyed_any (c : List UInt32) (m : Mt) (ps : List Pr) (text : ByteArray) (s : Nat) (A O : Option Addr) (q oq : Nat) (w : World) (hc : RdE 1 encW w A c) (hk : Pk c m) (hs : newerN (markN c 5 0) (markN c 5 1) = some s) (hq : c.length ≤ q) (hr : RdE 4 Pr.enc w O ps) (hpk : ∀ p ∈ ps, p.ok) (hg : Orc.Good ps) :
    Calls Tryd.prog 24 #[.slice A c.length q, .agg #[.slice O ps.length oq], .string text] w fun e w' => ∃ B p, e = .returned (.tuple #[.slice B (movedW c s m (keyedR m ps text.data.toList).1).length p, .int .i64 (keyedR m ps text.data.toList).2.1, .int .i64 (keyedR m ps text.data.toList).2.2]) ∧ OwWr w.heap.size w' B p (movedW c s m (keyedR m ps text.data.toList).1) ∧ Below w.heap.size w w' := by
  have HB := Lib.hid (fun W hW => Boot_any c m A q W hW hk hq)
  have HP := Lib.hid (fun W => parse_full text W)
  have HC := Lib.hid hc
  have HR := Lib.hid hr
  unfold keyedR
  by_cases hp : parseE text.data.toList = 0
  · rw [if_pos hp]
    have HK := Lib.hid (fun W hW => key_yes m ps (parseT text.data.toList) O oq W hk.ok hk.may hW hpk hg)
    obtain ⟨k1, k2⟩ := key_keep m ps (parseT text.data.toList) hk.ok hk.may
    have k3 := key_code m ps (parseT text.data.toList)
    have HM := Lib.hid (fun W hW => moved_any c m (keyR m ps (parseT text.data.toList)).1 s A q W hW hk hs k1 k2)
    rw [hp] at HP
    generalize movedW c s m (keyR m ps (parseT text.data.toList)).1 = MW at *
    generalize keyR m ps (parseT text.data.toList) = K at *
    generalize parseT text.data.toList = T at *
    obtain ⟨⟨b0, b1, b2, b3, b4, b5, b6⟩, ad, co⟩ := K
    obtain ⟨a0, a1, a2, a3, a4, a5, a6⟩ := m
    obtain ⟨tc, ti, ta, tt⟩ := T
    unfold Mt.vals Tk.vals at *
    simp only at *
    have c5 : (co == 5) = false := beq_eq_false_iff_ne.mpr k3
    clear hc hk hs hq hr hpk hg hp k1 k2 k3
    go_enter Tryd.func24, Tryd.ntmps24
    go_wp2_with (fail)
    go_at_call 26
    refine (HB.out _ (HC.out.below (blw_alloc (Below.refl _ _) _))).mono ?_
    rintro e w1 ⟨rfl, hb⟩
    have hwz1 := hb.size
    try simp at hwz1
    have HBw1 : Hid (Below w.heap.size w w1) := Lib.hid (below_then' (by repeat (first | with_reducible exact Below.refl _ _ | with_reducible refine blw_alloc ?_ _ | with_reducible refine Below.drew ?_ | with_reducible refine blw_step ?_ _ | with_reducible refine Below.setCell (p := ⟨_, _, none⟩) ?_ (by first | exact Nat.le_refl _ | (simp; done) | (simp; omega) | omega) _)) hb)
    have Cow1 : Hid (Cs w1 (w.heap.size) [.slice O ps.length oq]) := Lib.hid ((show Cs _ (w.heap.size) [.slice O ps.length oq] from (by (repeat (first | (with_reducible refine Cs.new ?_; focus (first | rfl | (simp; done) | omega)) | with_reducible refine Cs.alloc ?_ _ | with_reducible refine Cs.drew ?_ | with_reducible refine Cs.drewN ?_ _ | (with_reducible refine Cs.other ?_ ?_ _; focus (first | omega | (simp; omega))) | with_reducible apply Cs.put)) <;> first | rfl | (simp; done))).after hb)
    clear hb
    have low1 := Cow1.out.1
    have hs1 := HBw1.out.size
    go_wp2_with (fail)
    go_at_call 18
    refine (HP.out _).mono ?_
    rintro e w2 ⟨rfl, hb⟩
    have hwz2 := hb.size
    try simp at hwz2
    have HBw2 : Hid (Below w.heap.size w w2) := Lib.hid (below_then' (by repeat (first | with_reducible exact HBw1.out | with_reducible refine blw_alloc ?_ _ | with_reducible refine Below.drew ?_ | with_reducible refine blw_step ?_ _ | with_reducible refine Below.setCell (p := ⟨_, _, none⟩) ?_ (by first | exact Nat.le_refl _ | (simp; done) | (simp; omega) | omega) _)) hb)
    have Cow2 : Hid (Cs w2 (w.heap.size) [.slice O ps.length oq]) := Lib.hid ((show Cs _ (w.heap.size) [.slice O ps.length oq] from (by (repeat (first | with_reducible exact Cow1.out | (with_reducible refine Cs.new ?_; focus (first | rfl | (simp; done) | omega)) | with_reducible refine Cs.alloc ?_ _ | with_reducible refine Cs.drew ?_ | with_reducible refine Cs.drewN ?_ _ | (with_reducible refine Cs.other ?_ ?_ _; focus (first | omega | (simp; omega))) | with_reducible apply Cs.put)) <;> first | rfl | (simp; done))).after hb)
    have Cmw2 : Hid (Cs w2 (w1.heap.size) [.int .i64 a0, .int .i64 a1, .int .i64 a2, .int .i64 a3, .int .u64 (a4 : Int), .int .i64 a5, .int .i64 a6]) := Lib.hid ((show Cs _ (w1.heap.size) [.int .i64 a0, .int .i64 a1, .int .i64 a2, .int .i64 a3, .int .u64 (a4 : Int), .int .i64 a5, .int .i64 a6] from (by (repeat (first | (with_reducible refine Cs.new ?_; focus (first | rfl | (simp; done) | omega)) | with_reducible refine Cs.alloc ?_ _ | with_reducible refine Cs.drew ?_ | with_reducible refine Cs.drewN ?_ _ | (with_reducible refine Cs.other ?_ ?_ _; focus (first | omega | (simp; omega))) | with_reducible apply Cs.put)) <;> first | rfl | (simp; done))).after hb)
    clear hb
    have low2 := Cow2.out.1
    have ow2g0 := (Cow2.out.at 0 rfl).1
    have lmw2 := Cmw2.out.1
    have mw2g0 := (Cmw2.out.at 0 rfl).1
    have mw2g1 := (Cmw2.out.at 1 rfl).1
    have mw2g2 := (Cmw2.out.at 2 rfl).1
    have mw2g3 := (Cmw2.out.at 3 rfl).1
    have mw2g4 := (Cmw2.out.at 4 rfl).1
    have mw2g5 := (Cmw2.out.at 5 rfl).1
    have mw2g6 := (Cmw2.out.at 6 rfl).1
    have hs2 := HBw2.out.size
    go_wp2_with (fail)
    go_at_call 34
    refine (HK.out _ (HR.out.below (by repeat (first | with_reducible exact HBw2.out | with_reducible refine blw_alloc ?_ _ | with_reducible refine Below.drew ?_ | with_reducible refine blw_step ?_ _ | with_reducible refine Below.setCell (p := ⟨_, _, none⟩) ?_ (by first | exact Nat.le_refl _ | (simp; done) | (simp; omega) | omega) _)))).mono ?_
    rintro e w3 ⟨rfl, hb⟩
    have hwz3 := hb.size
    try simp at hwz3
    have HBw3 : Hid (Below w.heap.size w w3) := Lib.hid (below_then' (by repeat (first | with_reducible exact HBw2.out | with_reducible refine blw_alloc ?_ _ | with_reducible refine Below.drew ?_ | with_reducible refine blw_step ?_ _ | with_reducible refine Below.setCell (p := ⟨_, _, none⟩) ?_ (by first | exact Nat.le_refl _ | (simp; done) | (simp; omega) | omega) _)) hb)
    have Cmw3 : Hid (Cs w3 (w1.heap.size) [.int .i64 a0, .int .i64 a1, .int .i64 a2, .int .i64 a3, .int .u64 (a4 : Int), .int .i64 a5, .int .i64 a6]) := Lib.hid ((show Cs _ (w1.heap.size) [.int .i64 a0, .int .i64 a1, .int .i64 a2, .int .i64 a3, .int .u64 (a4 : Int), .int .i64 a5, .int .i64 a6] from (by (repeat (first | with_reducible exact Cmw2.out | (with_reducible refine Cs.new ?_; focus (first | rfl | (simp; done) | omega)) | with_reducible refine Cs.alloc ?_ _ | with_reducible refine Cs.drew ?_ | with_reducible refine Cs.drewN ?_ _ | (with_reducible refine Cs.other ?_ ?_ _; focus (first | omega | (simp; omega))) | with_reducible apply Cs.put)) <;> first | rfl | (simp; done))).after hb)
    clear ow2g0 mw2g0 mw2g1 mw2g2 mw2g3 mw2g4 mw2g5 mw2g6 hb
    have lmw3 := Cmw3.out.1
    have mw3g0 := (Cmw3.out.at 0 rfl).1
    have mw3g1 := (Cmw3.out.at 1 rfl).1
    have mw3g2 := (Cmw3.out.at 2 rfl).1
    have mw3g3 := (Cmw3.out.at 3 rfl).1
    have mw3g4 := (Cmw3.out.at 4 rfl).1
    have mw3g5 := (Cmw3.out.at 5 rfl).1
    have mw3g6 := (Cmw3.out.at 6 rfl).1
    have hs3 := HBw3.out.size
    go_wp2_with (fail)
    go_at_call 51
    refine (HM.out _ (HC.out.below (by repeat (first | with_reducible exact HBw3.out | with_reducible refine blw_alloc ?_ _ | with_reducible refine Below.drew ?_ | with_reducible refine blw_step ?_ _ | with_reducible refine Below.setCell (p := ⟨_, _, none⟩) ?_ (by first | exact Nat.le_refl _ | (simp; done) | (simp; omega) | omega) _)))).mono ?_
    rintro e w4 ⟨B, p, rfl, ho, hb⟩
    have hwz4 := hb.size
    try simp at hwz4
    have HBw4 : Hid (Below w.heap.size w w4) := Lib.hid (below_then' (by repeat (first | with_reducible exact HBw3.out | with_reducible refine blw_alloc ?_ _ | with_reducible refine Below.drew ?_ | with_reducible refine blw_step ?_ _ | with_reducible refine Below.setCell (p := ⟨_, _, none⟩) ?_ (by first | exact Nat.le_refl _ | (simp; done) | (simp; omega) | omega) _)) hb)
    have HO := Lib.hid (Win.own_mono ho (show w.heap.size ≤ _ by (first | (simp; omega) | omega)))
    clear ho
    clear mw3g0 mw3g1 mw3g2 mw3g3 mw3g4 mw3g5 mw3g6 hb
    go_wp2_with fail
    go_ret3
    exact ⟨B, p, rfl, HO.out, HBw4.out⟩
  · rw [if_neg hp]
    have hme : movedW c s m m = [] := by unfold movedW; rw [(eqM_iff m m).2 rfl, if_pos rfl]
    rw [hme]
    generalize parseT text.data.toList = T at *
    generalize parseE text.data.toList = pe at *
    have e1 : (pe == 0) = false := beq_eq_false_iff_ne.mpr hp
    have e2 : (pe != 0) = true := bne_iff_ne.mpr hp
    obtain ⟨a0, a1, a2, a3, a4, a5, a6⟩ := m
    obtain ⟨tc, ti, ta, tt⟩ := T
    unfold Mt.vals Tk.vals at *
    simp only at *
    clear hc hk hs hq hr hpk hg hp hme
    go_enter Tryd.func24, Tryd.ntmps24
    go_wp2_with (fail)
    go_at_call 26
    refine (HB.out _ (HC.out.below (blw_alloc (Below.refl _ _) _))).mono ?_
    rintro e w1 ⟨rfl, hb⟩
    have hwz1 := hb.size
    try simp at hwz1
    have HBw1 : Hid (Below w.heap.size w w1) := Lib.hid (below_then' (by repeat (first | with_reducible exact Below.refl _ _ | with_reducible refine blw_alloc ?_ _ | with_reducible refine Below.drew ?_ | with_reducible refine blw_step ?_ _ | with_reducible refine Below.setCell (p := ⟨_, _, none⟩) ?_ (by first | exact Nat.le_refl _ | (simp; done) | (simp; omega) | omega) _)) hb)
    have Cow1 : Hid (Cs w1 (w.heap.size) [.slice O ps.length oq]) := Lib.hid ((show Cs _ (w.heap.size) [.slice O ps.length oq] from (by (repeat (first | (with_reducible refine Cs.new ?_; focus (first | rfl | (simp; done) | omega)) | with_reducible refine Cs.alloc ?_ _ | with_reducible refine Cs.drew ?_ | with_reducible refine Cs.drewN ?_ _ | (with_reducible refine Cs.other ?_ ?_ _; focus (first | omega | (simp; omega))) | with_reducible apply Cs.put)) <;> first | rfl | (simp; done))).after hb)
    clear hb
    have low1 := Cow1.out.1
    have hs1 := HBw1.out.size
    go_wp2_with (fail)
    go_at_call 18
    refine (HP.out _).mono ?_
    rintro e w2 ⟨rfl, hb⟩
    have hwz2 := hb.size
    try simp at hwz2
    have HBw2 : Hid (Below w.heap.size w w2) := Lib.hid (below_then' (by repeat (first | with_reducible exact HBw1.out | with_reducible refine blw_alloc ?_ _ | with_reducible refine Below.drew ?_ | with_reducible refine blw_step ?_ _ | with_reducible refine Below.setCell (p := ⟨_, _, none⟩) ?_ (by first | exact Nat.le_refl _ | (simp; done) | (simp; omega) | omega) _)) hb)
    have Cow2 : Hid (Cs w2 (w.heap.size) [.slice O ps.length oq]) := Lib.hid ((show Cs _ (w.heap.size) [.slice O ps.length oq] from (by (repeat (first | with_reducible exact Cow1.out | (with_reducible refine Cs.new ?_; focus (first | rfl | (simp; done) | omega)) | with_reducible refine Cs.alloc ?_ _ | with_reducible refine Cs.drew ?_ | with_reducible refine Cs.drewN ?_ _ | (with_reducible refine Cs.other ?_ ?_ _; focus (first | omega | (simp; omega))) | with_reducible apply Cs.put)) <;> first | rfl | (simp; done))).after hb)
    have Cmw2 : Hid (Cs w2 (w1.heap.size) [.int .i64 a0, .int .i64 a1, .int .i64 a2, .int .i64 a3, .int .u64 (a4 : Int), .int .i64 a5, .int .i64 a6]) := Lib.hid ((show Cs _ (w1.heap.size) [.int .i64 a0, .int .i64 a1, .int .i64 a2, .int .i64 a3, .int .u64 (a4 : Int), .int .i64 a5, .int .i64 a6] from (by (repeat (first | (with_reducible refine Cs.new ?_; focus (first | rfl | (simp; done) | omega)) | with_reducible refine Cs.alloc ?_ _ | with_reducible refine Cs.drew ?_ | with_reducible refine Cs.drewN ?_ _ | (with_reducible refine Cs.other ?_ ?_ _; focus (first | omega | (simp; omega))) | with_reducible apply Cs.put)) <;> first | rfl | (simp; done))).after hb)
    clear hb
    have low2 := Cow2.out.1
    have ow2g0 := (Cow2.out.at 0 rfl).1
    have lmw2 := Cmw2.out.1
    have mw2g0 := (Cmw2.out.at 0 rfl).1
    have mw2g1 := (Cmw2.out.at 1 rfl).1
    have mw2g2 := (Cmw2.out.at 2 rfl).1
    have mw2g3 := (Cmw2.out.at 3 rfl).1
    have mw2g4 := (Cmw2.out.at 4 rfl).1
    have mw2g5 := (Cmw2.out.at 5 rfl).1
    have mw2g6 := (Cmw2.out.at 6 rfl).1
    have hs2 := HBw2.out.size
    go_wp2_with fail
    go_ret3
    exact ⟨none, 0, rfl, World.ownsRow_nil _ _ _ _, blw_alloc HBw2.out _⟩
end Go.Proofs.YtccjcdecpgigpaaDoor.Pock
