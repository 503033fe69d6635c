/- The walk of DebtEnds. -/
import Derived.Test.YtjlihpbnhojdgaaTotal
namespace Go.Proofs.Ytjlihpbnhojdgaa.DebtEnds
open Go.RowKit Go.Proofs.Ytjlihpbnhojdgaa.Base Go.Proofs.Ytjlihpbnhojdgaa.Debt
set_option linter.unusedVariables false
set_option linter.unusedSimpArgs false
set_option maxRecDepth 20000

def timesI (owed share : Int) : Int := if owed = 0 then 0 else (owed + share - 1) / share
theorem times_any (xs : List Db) (tender bp share : Int) (A : Option Addr) (c : Nat) (w : World) (hx : RdE 2 Db.enc w A xs) (hn : xs.length ≤ 8) (hk : ∀ x ∈ xs, x.ok) (t0 : 0 ≤ tender) (t1 : tender ≤ 100000000) (b0 : 0 ≤ bp) (b1 : bp ≤ 10000) (hs : share = tender * bp / 10000) (s0 : 0 < share) (s1 : share ≤ 100000000) :
    Calls Try.prog 27 #[.slice A xs.length c, .int .i64 tender, .int .i64 bp] w fun e w' => e = .returned (.tuple #[.int .i64 (timesI (sumD xs) share), .int .i64 0]) ∧ Below w.heap.size w w' := by
  have HS := Lib.hid hs
  have HX := Lib.hid hx
  have HK := Lib.hid hk
  obtain ⟨q0, q1⟩ := sumD_bd xs hk
  obtain ⟨owed, ho⟩ : ∃ o, o = sumD xs := ⟨_, rfl⟩
  rw [← ho] at q0 q1 ⊢
  have HO := Lib.hid ho
  have hsne : (share == 0) = false := by simp; omega
  clear hs hx hk ho
  have hw8 : owed ≤ 8000000000 := by omega
  by_cases hz : owed = 0
  · have hzb : (owed == 0) = true := by simp [hz]
    have HZ := Lib.hid hz
    have htm := Lib.hid (show timesI owed share = 0 by unfold timesI; rw [if_pos hz])
    clear hz
    go_enter Try.func27, Try.ntmps27
    go_wp2_with (first | (go_at_call 51; refine (fault_ok xs A c _ HX.out hn HK.out).mono ?_; rintro e w1 ⟨rfl, hb⟩; have HB1 := Lib.hid hb; clear hb) | (go_at_call 52; refine (part_any _ _ _ t0 (by omega) b0 b1).mono ?_; rintro e w' ⟨rfl, rfl⟩; rw [← HS.out]) | (go_at_call 53; refine (total_any xs A c _ (HX.out.below HB1.out) hn HK.out).mono ?_; rw [← HO.out]; rintro e w2 ⟨rfl, hb⟩; have HB2 := Lib.hid hb; clear hb))
    go_ret2
    exact ⟨by rw [htm.out]; rfl, below_then' HB1.out HB2.out⟩
  · have hzb : (owed == 0) = false := by simp [hz]
    have htm := Lib.hid (show timesI owed share = (owed + share - 1) / share by unfold timesI; rw [if_neg hz])
    have hz2 : 0 < owed := by omega
    clear hz
    have hne : share ≠ 0 := by omega
    go_enter Try.func27, Try.ntmps27
    go_wp2_with (first | (go_at_call 51; refine (fault_ok xs A c _ HX.out hn HK.out).mono ?_; rintro e w1 ⟨rfl, hb⟩; have HB1 := Lib.hid hb; clear hb) | (go_at_call 52; refine (part_any _ _ _ t0 (by omega) b0 b1).mono ?_; rintro e w' ⟨rfl, rfl⟩; rw [← HS.out]) | (go_at_call 53; refine (total_any xs A c _ (HX.out.below HB1.out) hn HK.out).mono ?_; rw [← HO.out]; rintro e w2 ⟨rfl, hb⟩; have HB2 := Lib.hid hb; clear hb))
    go_ret2
    exact ⟨by rw [htm.out]; first | rfl | (rw [Int.tdiv_eq_ediv_of_nonneg (by omega)]; rfl), below_then' HB1.out HB2.out⟩

/-- What is left behind k rounds. -/
def leftI (owed share : Int) (k : Nat) : Int := max 0 (owed - (k : Int) * share)
def HidLeft (owed share : Int) (k : Nat) (s : Int) : Prop := s = leftI owed share k
theorem left_step (owed share : Int) (k : Nat) (h0 : 0 ≤ owed) (hs : 0 < share) : leftI owed share k - min share (leftI owed share k) = leftI owed share (k + 1) := by
  unfold leftI
  have e : ((k + 1 : Nat) : Int) * share = (k : Int) * share + share := by rw [Int.natCast_add, Int.add_mul]; simp
  rw [e]
  generalize (k : Int) * share = m
  omega
theorem times_facts (owed share : Int) (h0 : 0 ≤ owed) (h1 : owed ≤ 80000) (hs : 100 ≤ share) : ∃ n : Nat, timesI owed share = (n : Int) ∧ n ≤ 1000 ∧ (0 < n ↔ 0 < owed) ∧ leftI owed share n = 0 ∧ ∀ k, k < n → 0 < leftI owed share k := by
  unfold timesI
  by_cases hz : owed = 0
  · rw [if_pos hz]
    refine ⟨0, rfl, by omega, by omega, ?_, fun k hk => by omega⟩
    unfold leftI
    rw [hz]
    simp
  · rw [if_neg hz]
    have a1 := Int.ediv_mul_le (owed + share - 1) (by omega : share ≠ 0)
    have a2 := Int.lt_ediv_add_one_mul_self (owed + share - 1) (by omega : 0 < share)
    have a0 : 0 ≤ (owed + share - 1) / share := Int.ediv_nonneg (by omega) (by omega)
    obtain ⟨n, hn⟩ := Int.eq_ofNat_of_zero_le a0
    rw [hn] at a1 a2 ⊢
    rw [Int.add_mul, Int.one_mul] at a2
    have hpos : 0 < n := by
      rcases Nat.eq_zero_or_pos n with h | h
      · subst h
        simp at a2
        omega
      · exact h
    have hm : (n : Int) * 100 ≤ (n : Int) * share := Int.mul_le_mul_of_nonneg_left hs (by omega)
    refine ⟨n, rfl, ?_, by omega, ?_, ?_⟩
    · have : (n : Int) * 100 ≤ owed + share - 1 := by omega
      by_cases hb : share ≤ 20000
      · omega
      · have hm2 : (n : Int) * 20000 ≤ (n : Int) * share := Int.mul_le_mul_of_nonneg_left (by omega) (by omega)
        have hm3 : ((n : Int) - 1) * 20000 ≤ ((n : Int) - 1) * share := Int.mul_le_mul_of_nonneg_left (by omega) (by omega)
        rw [Int.sub_mul, Int.sub_mul, Int.one_mul, Int.one_mul] at hm3
        omega
    · unfold leftI
      omega
    · intro k hk
      have hk1 : ((k : Int) + 1) * share ≤ (n : Int) * share := Int.mul_le_mul_of_nonneg_right (by omega) (by omega)
      rw [Int.add_mul, Int.one_mul] at hk1
      unfold leftI
      omega
theorem sumD_bd2 (m : Int) : ∀ a : List Db, (∀ x ∈ a, 0 ≤ x.a ∧ x.a ≤ m) → 0 ≤ sumD a ∧ sumD a ≤ m * a.length
  | [], _ => by simp [sumD]
  | x :: a, h => by
    have h1 := sumD_bd2 m a (fun y hy => h y (List.mem_cons_of_mem _ hy))
    have h2 := h x (List.mem_cons_self)
    simp only [sumD, List.length_cons]
    rw [Int.natCast_add, Int.mul_add]
    simp
    omega
theorem share_bd (x y : Int) (hx0 : 1000 ≤ x) (hx1 : x ≤ 100999) (hy0 : 1000 ≤ y) (hy1 : y ≤ 10000) : 100 ≤ x * y / 10000 ∧ x * y / 10000 ≤ 100999 := by
  have h1 : 1000 * 1000 ≤ x * y := Int.mul_le_mul hx0 hy0 (by decide) (by omega)
  have h2 : x * y ≤ 100999 * 10000 := Int.mul_le_mul hx1 hy1 (by omega) (by decide)
  omega

theorem walk (l : List Ow) (L : Option Addr) (d : Nat) (x y : Int) (w : World) (hl : RdE 2 Ow.enc w L l) (hk : ∀ x ∈ l, x.ok) (wx : (Lit.int .i64 x).wf = true) (wy : (Lit.int .i64 y).wf = true) :
    Calls Try.prog 8 #[.slice L l.length d, .int .i64 x, .int .i64 y] w fun e w' => e = .returned (.bool true) ∧ Below w.heap.size w w' := by
  obtain ⟨x0, x1⟩ := i64_bound wx
  obtain ⟨y0, y1⟩ := i64_bound wy
  clear wx wy
  have HL := Lib.hid hl
  have HK := Lib.hid hk
  clear hl hk
  obtain ⟨tend, ht⟩ : ∃ t, t = pk x 100000 := ⟨_, rfl⟩
  obtain ⟨bp, hb⟩ : ∃ t, t = pk y 9001 := ⟨_, rfl⟩
  have ha := pk_bound x 100000 (by omega)
  have hbb := pk_bound y 9001 (by omega)
  rw [← ht] at ha
  rw [← hb] at hbb
  obtain ⟨ta0, ta1⟩ := ha
  obtain ⟨bb0, bb1⟩ := hbb
  have EA := Lib.hid ht.symm
  have EB := Lib.hid hb.symm
  clear ht hb
  obtain ⟨s0, s1⟩ := share_bd (1000 + tend) (1000 + bp) (by omega) (by omega) (by omega) (by omega)
  obtain ⟨share, hs⟩ : ∃ share, share = (1000 + tend) * (1000 + bp) / 10000 := ⟨_, rfl⟩
  rw [← hs] at s0 s1
  have HS := Lib.hid hs
  clear hs
  go_enter Try.func8, Try.ntmps8
  go_wp2_with (first | (go_at_call 26; refine (owing_any l _ L d _ HL.out HK.out (by omega) (by omega)).mono ?_; rintro e w1 ⟨D, q, rfl, ho, hb⟩; have HO := Lib.hid ho; have HB := Lib.hid hb; clear ho hb) | (go_at_call 15; refine (picked_any _ _ _ (by omega) (by omega) (by omega)).mono ?_; rintro e w' ⟨rfl, rfl⟩; first | rw [EA.out] | rw [EB.out]) | fail)
  have dl := owingL_len l 10000
  have dk := Lib.hid (owingL_ok l 10000 (by omega) (by omega))
  have dsm : ∀ x ∈ owingL l 10000, 0 ≤ x.a ∧ x.a ≤ 10000 := by
    intro x hx
    obtain ⟨z, _, rfl⟩ := List.mem_map.1 hx
    have := pk_bound z.a (10000 + 1) (by omega)
    simp only
    omega
  obtain ⟨o0, o1⟩ := sumD_bd2 10000 _ dsm
  clear dsm
  generalize owingL l 10000 = ds at *
  obtain ⟨owed, hod⟩ : ∃ o, o = sumD ds := ⟨_, rfl⟩
  rw [← hod] at o0 o1
  have o2 : owed ≤ 80000 := by omega
  have HOD := Lib.hid hod
  obtain ⟨n, hn, hn1, hn2, hn3, hn4⟩ := times_facts owed share o0 o2 s0
  have HN := Lib.hid hn
  have HN3 := Lib.hid hn3
  have HN4 := Lib.hid hn4
  have hnn : decide ((n : Int) > 0) = decide (owed > 0) := by rw [decide_eq_decide]; omega
  have HNN := Lib.hid hnn
  have HN2 := Lib.hid hn2
  clear hod hn hn3 hn4 hn2 hnn o1
  have HD := Lib.hid HO.out.read
  go_at_call 27
  refine (times_any ds _ _ share D q _ HD.out dl dk.out (by omega) (by omega) (by omega) (by omega) HS.out (by omega) (by omega)).mono ?_
  rw [← HOD.out, HN.out]
  rintro e w2 ⟨rfl, hb⟩
  have HB2 := Lib.hid hb
  have HD2 := Lib.hid (HD.out.below hb)
  clear hb
  go_wp2_with (fail)
  go_at_call 28
  refine (sumOf_any ds D q _ HD2.out dl dk.out).mono ?_
  rw [← HOD.out]
  rintro e w' ⟨rfl, rfl⟩
  have hz0 : HidLeft owed share 0 owed := by unfold HidLeft leftI; simp; omega
  have HZ0 := Lib.hid hz0
  clear hz0
  have hs1 := HB.out.size
  have hs2 := HB2.out.size
  by_cases hpos : 0 < n
  all_goals
    have hpo : decide (0 < owed) = decide (0 < n) := by rw [decide_eq_decide]; exact HN2.out.symm
    first | (have hq1 : 0 < owed := HN2.out.1 hpos) | (have hq1 : ¬ 0 < owed := fun h => hpos (HN2.out.2 h))
    have hq2 : decide (owed > 0) = decide (0 < n) := hpo
    clear hpo hq2
    go_wp2
    go_loopw [7, 12] (fun v i wr => ∃ (k : Nat) (es : List Db) (E : Option Addr) (r : Nat), k ≤ n ∧ i = .int .i64 k ∧ v = .slice E es.length r ∧ RdE 2 Db.enc wr E es ∧ es.length ≤ 8 ∧ (∀ x ∈ es, x.ok) ∧ HidLeft owed share k (sumD es) ∧ Below w2.heap.size w2 wr) (fun _ i _ => n - (intOf i).toNat)
    case atStart => exact ⟨0, ds, D, q, by omega, rfl, rfl, HD2.out, dl, dk.out, by rw [← HOD.out]; exact HZ0.out, Below.refl _ _⟩
    case round =>
      obtain ⟨k, es, E, r, hk, rfl, rfl, hr, hl8, hok, hsum, hb⟩ := hrel
      have HE := Lib.hid hr
      have HOK := Lib.hid hok
      have HSU := Lib.hid hsum
      have HBk := Lib.hid hb
      have hs3 := hb.size
      clear hr hok hsum hb
      obtain ⟨su, hsu⟩ : ∃ su, su = sumD es := ⟨_, rfl⟩
      have HSM := Lib.hid hsu
      clear hsu
      by_cases hlt : k < n
      · have hsp : 0 < su := by
          have h1 := HN4.out k hlt
          have h2 := HSU.out
          unfold HidLeft at h2
          rw [HSM.out, h2]
          exact h1
        have hse : (su == 0) = false := by simp; omega
        have hki : (k : Int) < (n : Int) := by omega
        go_wp2_with (go_at_call 29; refine (Total_any es E r _ HE.out hl8 HOK.out).mono ?_; rw [← HSM.out]; rintro e w3 ⟨rfl, hb⟩; have HB3 := Lib.hid hb; clear hb)
        go_at_call 30
        refine (recover_any es _ _ E r _ (HE.out.below HB3.out) hl8 HOK.out (by omega) (by omega) (by omega) (by omega)).mono ?_
        rw [← HS.out]
        rintro e w4 ⟨F, r4, rfl, ho, hb⟩
        obtain ⟨_, hin, hln⟩ := recL_inv share (by omega) es HOK.out
        obtain ⟨g1, g2⟩ := rec_sum share (by omega) es HOK.out
        have hnext : HidLeft owed share (k + 1) (sumD (recL share es).1) := by
          have h2 := HSU.out
          unfold HidLeft at h2 ⊢
          rw [← left_step owed share k (by omega) (by omega), ← h2]
          omega
        generalize recL share es = R at *
        obtain ⟨aft, paid⟩ := R
        have HO4 := Lib.hid ho
        have HB4 := Lib.hid hb
        have HIN := Lib.hid hin
        have HNX := Lib.hid hnext
        have hal : aft.length ≤ 8 := by simp only at hln; omega
        clear ho hb hin hnext g1 g2 hln
        simp only
        go_wp2
        go_roundw
        case rel => exact ⟨k + 1, aft, F, r4, by omega, by go_num, rfl, HO4.out.read, hal, (fun x h => (HIN.out x h).1), HNX.out, (HBk.out.trans (HB3.out.mono (by omega))).trans (HB4.out.mono (by have := HB3.out.size; omega))⟩
        case measure => simp [intOf]; omega
      · obtain rfl : k = n := by omega
        have hsz : su = 0 := by
          have h2 := HSU.out
          unfold HidLeft at h2
          rw [HSM.out, h2]
          exact HN3.out
        have hse : (su == 0) = true := by simp [hsz]
        clear hsz
        go_wp2_with (go_at_call 29; refine (Total_any es E r _ HE.out hl8 HOK.out).mono ?_; rw [← HSM.out]; rintro e w3 ⟨rfl, hb⟩; have HB3 := Lib.hid hb; clear hb)
        go_ret
        exact ⟨rfl, ((below_then HB.out hs1 HB2.out).trans (HBk.out.mono (by omega))).trans (HB3.out.mono (by omega))⟩
end Go.Proofs.Ytjlihpbnhojdgaa.DebtEnds
