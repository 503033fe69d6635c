/- Contracts: disk.Replay; the laws' helpers put, sameRecords, tape. -/
import Derived.Test.YtjlihpbnhojdgaaDisk2
namespace Go.Proofs.Ytjlihpbnhojdgaa.Cell
open Go.RowKit Go.Proofs.Ytjlihpbnhojdgaa.Base
set_option linter.unusedVariables false
set_option linter.unusedSimpArgs false
set_option maxRecDepth 20000
theorem keep_len (b : Nat) (recs : List (List UInt32)) (v : Value) (r : List UInt32) (m : Nat) (D : Option Addr) (d : Nat) (w : World) (hm : m = r.length) (hc : Cs w b [v]) (ho : OwS (b + 1) w v recs) (hr : RdE 1 encW w D r) (r0 : 1 ≤ r.length) (r1 : r.length ≤ 64) (hn : recs.length ≤ 5000) :
    Calls Try.prog 63 #[.slice D m d, .pointer (some ⟨b, 0, none⟩)] w fun e w' => e = .returned (.tuple #[]) ∧ ∃ v', Cs w' b [v'] ∧ OwS (b + 1) w' v' (recs ++ [r]) ∧ Below b w w' := by
  subst hm
  exact keep_any b recs v r D d w hc ho hr r0 r1 hn
set_option maxHeartbeats 2000000 in
theorem walk_keep (c : List UInt32) (l : List (List UInt32)) (A : Option Addr) (q b : Nat) (w : World) (hc : ∀ W, Below b w W → RdE 1 encW W A c) (ht : Tape c l) (h0 : 1 ≤ c.length) (h1 : c.length ≤ 2048) (hq : c.length ≤ q) (hcs : Cs w b [.slice none 0 0]) (hl : l.length ≤ 5000) :
    Calls Try.prog 55 #[.slice A c.length q, .func (.func 63) #[] #[.pointer (some ⟨b, 0, none⟩)]] w fun e w' => e = .returned (.tuple #[.int .i64 ((encL l).length : Int), .int .i64 0]) ∧ ∃ v, Cs w' b [v] ∧ OwS (b + 1) w' v l ∧ Below b w w' := by
  obtain ⟨ad, rfl, _⟩ := (hc w (Below.refl _ _)).2 (by intro hn; subst hn; simp at h0)
  have HC := Lib.hid hc
  have HT := Lib.hid ht
  have HZ := Lib.hid hcs
  clear hc ht hcs
  have e0 : decide ((c.length : Int) < 1) = false := decide_eq_false (by omega)
  have e1 : decide ((c.length : Int) > 2048) = false := decide_eq_false (by omega)
  have e2 : decide (c.length < 1) = false := decide_eq_false (by omega)
  have e3 : decide (2048 < c.length) = false := decide_eq_false (by omega)
  go_enter Try.func55, Try.ntmps55
  go_wp2_with (fail)
  go_loopg [6] l.length (fun m p wr => ∃ (k : Nat) (v : Value), m + k = l.length ∧ p = .int .i64 ((encL (l.take k)).length : Int) ∧ Cs wr b [v] ∧ OwS (b + 1) wr v (l.take k) ∧ Below b w wr)
  case atStart => exact ⟨0, .slice none 0 0, by omega, rfl, HZ.out, OwS.nil _ _, Below.refl _ _⟩
  case round =>
    obtain ⟨k, v, hk, rfl, hcs, hos, hbl⟩ := hrel
    have HS := Lib.hid hcs
    have HO := Lib.hid hos
    have HB := Lib.hid hbl
    clear hcs hos hbl HZ
    clear e0 e1 e2 e3
    by_cases hlt : k < l.length
    · obtain ⟨hp, hx, hn, x0, x1, hpc⟩ := HT.out.at k hlt
      have hnx := Lib.hid (encL_take l k hlt)
      have hts := Lib.hid (List.take_succ_eq_append_getElem hlt)
      obtain ⟨ad', hae, hcell⟩ := (HC.out _ HB.out).at1 _ hp _ rfl
      cases hae
      rw [hx] at hcell
      have hpr := (((HC.out _ HB.out).drop ((encL (l.take k)).length + 1)).take l[k].length)
      rw [hpc, Nat.mul_one, add_pos] at hpr
      have HPR := Lib.hid hpr
      have htl : (l.take k).length ≤ 5000 := by simp; omega
      clear hx hpr hpc
      generalize l[k] = x at *
      generalize l.take k = lk at *
      generalize (encL lk).length = p at *
      have hpi : (p : Int) < (c.length : Int) := by omega
      have hp0 : (0 : Int) ≤ (p : Int) := by omega
      have t0 : ((x.length : Int) != 0) = true := bne_iff_ne.mpr (by omega)
      have t0' : (x.length != 0) = true := bne_iff_ne.mpr (by omega)
      have t1 : decide ((x.length : Int) > 64) = false := decide_eq_false (by omega)
      have t1' : decide (64 < x.length) = false := decide_eq_false (by omega)
      have t2 : decide ((x.length : Int) ≥ (c.length : Int) - (p : Int)) = false := decide_eq_false (by omega)
      have t3 : decide ((c.length : Int) - (p : Int) ≤ (x.length : Int)) = false := decide_eq_false (by omega)
      have HK := Lib.hid (fun (m : Nat) (d : Nat) (hm : m = x.length) => keep_len b lk v x m (some ⟨ad.block, ad.off + (p + 1), none⟩) d wr hm HS.out HO.out HPR.out x0 x1 htl)
      go_wp2_with (fail)
      go_at_call 63
      refine (HK.out _ _ (by omega)).mono ?_
      rintro e w2 ⟨rfl, v2, hcs, hos, hb⟩
      have HS2 := Lib.hid hcs
      have HO2 := Lib.hid hos
      have HB2 := Lib.hid (HB.out.trans hb)
      clear hcs hos hb hcell
      go_wp2_with (fail)
      go_roundg (l.length - (k + 1))
      case measure => omega
      case rel => exact ⟨k + 1, v2, by omega, by rw [hnx.out]; first | rfl | go_num | simp, HS2.out, by rw [hts.out]; exact HO2.out, HB2.out⟩
    · obtain rfl : k = l.length := by omega
      rw [List.take_length] at HO ⊢
      have hst := HT.out.stop
      generalize hpp : (encL l).length = p at *
      have HPP := Lib.hid hpp
      by_cases hp : p < c.length
      · have hpi : (p : Int) < (c.length : Int) := by omega
        have hp0 : (0 : Int) ≤ (p : Int) := by omega
        obtain ⟨ad', hae, hcell⟩ := (HC.out _ HB.out).at1 p hp _ rfl
        cases hae
        rw [getD_at _ _ hp] at hst
        rw [hst] at hcell
        clear hst hpp
        go_wp2
        go_ret2
        exact ⟨by rw [HPP.out]; rfl, v, HS.out, HO.out, HB.out⟩
      · have hpi : ¬ (p : Int) < (c.length : Int) := by omega
        clear hst hpp
        go_wp2
        go_ret2
        exact ⟨by rw [HPP.out]; rfl, v, HS.out, HO.out, HB.out⟩
theorem replay_any (c : List UInt32) (l : List (List UInt32)) (A : Option Addr) (q : Nat) (w : World) (hc : RdE 1 encW w A c) (ht : Tape c l) (h0 : 1 ≤ c.length) (h1 : c.length ≤ 2048) (hq : c.length ≤ q) (hl : l.length ≤ 5000) :
    Calls Try.prog 35 #[.slice A c.length q] w fun e w' => ∃ B p, e = .returned (.tuple #[.slice B l.length p, .int .i64 ((encL l).length : Int), .int .i64 0]) ∧ RdS w' B l ∧ Below w.heap.size w w' := by
  have HW := Lib.hid (walk_keep c l A q w.heap.size (w.alloc (.cells #[.slice none 0 0] 66)) (fun W h => hc.below ((blw_alloc (Below.refl _ _) _).trans h)) ht h0 h1 hq (Cs.new rfl) hl)
  clear hc ht
  go_enter Try.func35, Try.ntmps35
  go_wp2_with (fail)
  go_at_call 55
  refine HW.out.mono ?_
  rintro e w1 ⟨rfl, v, hcs, hos, hb⟩
  obtain ⟨B, p, rfl, hrd⟩ := hos.read
  have HB := Lib.hid ((blw_alloc (Below.refl _ _) _).trans hb)
  have HRD := Lib.hid hrd
  have c0 := (hcs.at 0 rfl).1
  clear hcs hos hb hrd
  go_wp2
  go_ret3
  exact ⟨B, p, rfl, HRD.out, HB.out⟩
theorem some_few (l : List UInt32) (most : Nat) (m : Int) (A : Option Addr) (c : Nat) (w : World) (hr : RdE 1 encW w A l) (hm : m = (most : Int)) (hmost : most ≤ 140737488351232) (hl : most ≤ 1000) :
    Calls Try.prog 20 #[.slice A l.length c, .int .i64 m] w fun e w' => ∃ B d, e = .returned (.slice B (someL l most).length d) ∧ OwW w.heap.size w' B d (someL l most) ∧ Below w.heap.size w w' := by
  subst hm
  have HR := Lib.hid hr
  clear hr
  go_enter Try.func20, Try.ntmps20
  go_wp2
  go_loopw [5, 6] (fun b i wr => ∃ k : Nat, k ≤ l.length ∧ k ≤ most ∧ i = .int .i64 k ∧ wr.ownsRow w.heap.size 45 1 b (l.take k).length ((l.take k).flatMap encW) ∧ Below w.heap.size w wr) (fun _ i _ => l.length - (intOf i).toNat)
  case atStart => exact ⟨0, by omega, by omega, rfl, World.ownsRow_nil _ _ _ _, Below.refl _ _⟩
  case round =>
    obtain ⟨k, hk, hkm, rfl, hown0, hb0⟩ := hrel
    have HO := Lib.hid hown0
    have HB := Lib.hid hb0
    clear hown0 hb0
    by_cases hlt : k < l.length ∧ k < most
    · obtain ⟨h1, h2⟩ := hlt
      obtain ⟨ad, rfl, hc⟩ := (HR.out.below HB.out).at1 k h1 _ rfl
      have hs := Lib.hid (List.take_succ_eq_append_getElem h1)
      have hln : (l.take k).length ≤ k := by simp; omega
      go_wp2_with (at_builtin; refine app1 (w0 := w) w.heap.size rfl (.tmp 18) (.tmp 23) 36 45 (.int .u32 0) 1 4 rfl Try.underlying36 info_u32 rfl (by decide) (by decide) _ _ _ [.int .u32 (l[k].toNat : Int)] rfl rfl rfl ?c1 HO.out HB.out HB.out.size ?c2 ?_; (case c1 => intro u hu; simp at hu; subst hu; rfl); (case c2 => omega); intro v1 w1 ho1 hb1 _ _)
      go_roundw
      case rel =>
        refine ⟨k + 1, by omega, by omega, by go_num, ?_, hb1⟩
        rw [hs.out, List.flatMap_append, List.length_append]
        exact ho1
      case measure => simp [intOf]; omega
    · obtain ⟨A1, c1, rfl, hrd⟩ := own_read (enc := encW) (fun _ => rfl) (by decide) HO.out
      have hl' : l.take k = l.take most := by
        rcases Nat.lt_or_ge k l.length with h | h
        · have : k = most := by omega
          rw [this]
        · rw [List.take_of_length_le (by omega), List.take_of_length_le (by omega)]
      have HL := Lib.hid hl'
      have hTl : (l.take k).length ≤ most := by simp; omega
      clear hl' hrd
      generalize l.take k = T at HO HL hTl ⊢
      by_cases h0 : T.length = 0
      · have hnil : T = [] := List.eq_nil_of_length_eq_zero h0
        have e1 : ((T.length : Int) == 0) = true := by rw [h0]; rfl
        have hsome : someL l most = [0] := by unfold someL; rw [← HL.out, if_pos hnil]
        have HS := Lib.hid hsome
        have hz : wr.ownsRow w.heap.size 45 1 (.slice A1 T.length c1) 0 [] := by
          have := HO.out
          rw [hnil] at this ⊢
          exact this
        have HZ := Lib.hid hz
        clear hsome hz h0
        by_cases hlt1 : k < l.length
        all_goals
          go_wp2_with (at_builtin; refine app1 (w0 := w) w.heap.size rfl (.tmp 28) (.tmp 29) 36 45 (.int .u32 0) 1 4 rfl Try.underlying36 info_u32 rfl (by decide) (by decide) _ _ _ [.int .u32 0] rfl rfl rfl ?c3 HZ.out HB.out HB.out.size ?c4 ?_; (case c3 => intro u hu; simp at hu; subst hu; rfl); (case c4 => omega); intro v1 w1 ho1 hb1 _ _)
          go_ret
          obtain ⟨B, d, hv, ho⟩ := OwW.of (xs := [0]) ho1 rfl rfl
          subst hv
          refine ⟨B, d, ?_, ?_, hb1⟩
          · rw [HS.out]; rfl
          · rw [HS.out]; exact ho
      · have e1 : ((T.length : Int) == 0) = false := beq_eq_false_iff_ne.mpr (by omega)
        have e2 : ¬ T = [] := fun h => h0 (by rw [h]; rfl)
        have hsome : someL l most = T := by unfold someL; rw [← HL.out, if_neg e2]
        have HS := Lib.hid hsome
        clear hsome h0 e2
        by_cases hlt1 : k < l.length
        all_goals
          go_wp2
          go_ret
          refine ⟨A1, c1, ?_, ?_, HB.out⟩
          · rw [HS.out]; rfl
          · rw [HS.out]; exact HO.out

end Go.Proofs.Ytjlihpbnhojdgaa.Cell
