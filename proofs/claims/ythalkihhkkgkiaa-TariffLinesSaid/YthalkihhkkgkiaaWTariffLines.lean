/- The walk of TariffLines. -/
import Derived.Test.YthalkihhkkgkiaaStep
namespace Go.Proofs.Ythalkihhkkgkiaa.TariffLines
open Go.RowKit Go.Proofs.Ythalkihhkkgkiaa.Base Go.Proofs.Ythalkihhkkgkiaa.Tar
set_option linter.unusedVariables false
set_option linter.unusedSimpArgs false
set_option maxRecDepth 20000
theorem unit_bound (l : List Ln) (m : Int) (h : ∀ x ∈ l, 0 ≤ x.units ∧ x.units ≤ m) : 0 ≤ unitL l ∧ unitL l ≤ m * l.length := by
  induction l with
  | nil => simp [unitL]
  | cons x l ih =>
    have h1 := ih (fun y hy => h y (List.mem_cons_of_mem _ hy))
    have h2 := h x (List.mem_cons_self ..)
    have h3 : unitL (x :: l) = x.units + unitL l := rfl
    rw [h3, List.length_cons, Int.natCast_add, Int.mul_add]
    omega
set_option maxHeartbeats 1000000 in
theorem walk (l : List Debt.Ow) (L : Option Addr) (d : Nat) (f u : Int) (w : World) (hl : RdE 2 Debt.Ow.enc w L l) (hk : ∀ x ∈ l, x.ok) (wf : (Lit.int .i64 f).wf = true) (wu : (Lit.int .i64 u).wf = true) :
    Calls Try.prog 8 #[.slice L l.length d, .int .i64 f, .int .i64 u] w fun e w' => e = .returned (.bool true) ∧ Below w.heap.size w w' := by
  obtain ⟨f0, f1⟩ := i64_bound wf
  obtain ⟨u0, u1⟩ := i64_bound wu
  have HST := Lib.hid (stepped_any l L d w hl hk)
  have hTG := stepped_TG l
  obtain ⟨hn1, hn8⟩ := stepped_len l
  clear hl hk wf wu
  generalize steppedL l = ts at *
  have HT := Lib.hid hTG
  have HP := Lib.hid (fun (B : Option Addr) (q : Nat) (f u : Int) (w1 : World) (hr : RdE 2 Stp.enc w1 B ts) (f0 : 0 ≤ f) (u0 : 0 ≤ u) (u1 : u ≤ 2097151) (fu : f + u ≤ 10000000) => price_any ts B q f u w1 hr hTG hn1 hn8 f0 u0 u1 fu)
  have HBI := Lib.hid (fun (B : Option Addr) (q : Nat) (f u : Int) (w1 : World) (hr : RdE 2 Stp.enc w1 B ts) (f0 : 0 ≤ f) (u0 : 0 ≤ u) (u1 : u ≤ 2097151) (fu : f + u ≤ 10000000) => bill_any ts B q f u w1 hr hTG hn1 hn8 f0 u0 u1 fu)
  have HMO := Lib.hid (fun (B : Option Addr) (q : Nat) (f m : Int) (w1 : World) (hr : RdE 2 Stp.enc w1 B ts) (f0 : 0 ≤ f) (f1 : f ≤ 10000000) (m0 : 0 ≤ m) (m1 : m ≤ 1000000000000) => most_any ts B q f m w1 hr hTG hn1 hn8 f0 f1 m0 m1)
  clear hTG
  go_enter Try.func8, Try.ntmps8
  go_wp2_with (fail)
  go_at_call 18
  refine HST.out.mono ?_
  rintro e w1 ⟨B, q, rfl, hr, hb⟩
  have HR1 := Lib.hid hr
  have HB1 := Lib.hid hb
  clear hr hb HST
  go_wp2_with (fail)
  go_at_call 11
  refine (picked_any f (10000000) _ (by omega) (by omega) (by omega)).mono ?_
  rintro e w' ⟨rfl, rfl⟩
  have bff := pk_bound f (10000000) (by omega)
  obtain ⟨ff, eff⟩ : ∃ n, n = pk f (10000000) := ⟨_, rfl⟩
  rw [← eff] at bff ⊢
  obtain ⟨bff0, bff1⟩ := bff
  clear eff
  obtain ⟨mx, hmx⟩ : ∃ m, m = min 2097151 (10000000 - ff) := ⟨_, rfl⟩
  have hmx1 : 1 ≤ mx ∧ mx ≤ 2097151 ∧ ff + mx ≤ 10000000 := by omega
  obtain ⟨hx1, hx2, hx3⟩ := hmx1
  by_cases hmi : 2097151 ≤ 10000000 - ff
  · obtain rfl : mx = 2097151 := by omega
    clear hmx
    go_wp2_with (fail)
    go_at_call 11
    refine (picked_any u (2097152) _ (by omega) (by omega) (by omega)).mono ?_
    rintro e w' ⟨rfl, rfl⟩
    have bn := pk_bound u (2097152) (by omega)
    obtain ⟨n, en⟩ : ∃ n, n = pk u (2097152) := ⟨_, rfl⟩
    rw [← en] at bn ⊢
    obtain ⟨bn0, bn1⟩ := bn
    clear en
    go_wp2_with (fail)
    go_at_call 20
    refine (HBI.out B q ff n _ HR1.out (by omega) (by omega) (by omega) (by omega)).mono ?_
    rintro e w2 ⟨D, dq, rfl, ho, hb⟩
    have HR2 := Lib.hid (HR1.out.below hb)
    have HB2 := Lib.hid (below_then' HB1.out hb)
    have HL2 := Lib.hid ho.read
    have HLN := Lib.hid (bill_lines ts 0 ff n HT.out (by omega))
    have HUN := Lib.hid (bill_units ts 0 ff n HT.out (by omega) (by omega) (by omega))
    have HBL := Lib.hid (bill_cost_ok ts 0 ff n HT.out (by omega) (by omega))
    have hbl := bill_len ts ff n
    clear ho hb
    go_wp2_with (fail)
    go_at_call 19
    refine (HP.out B q ff n _ HR2.out (by omega) (by omega) (by omega) (by omega)).mono ?_
    rintro e w3 ⟨rfl, hb⟩
    have HL3 := Lib.hid (HL2.out.below hb)
    have HB3 := Lib.hid (below_then' HB2.out hb)
    clear hb
    generalize billL ts ff n = ls at *
    have hlm := HL3.out.1
    have hll : ¬ (ts.length : Int) < (ls.length : Int) := by omega
    have hll2 : decide (ts.length < ls.length) = false := decide_eq_false (by omega)
    go_wp2_with (fail)
    go_loopg [14, 15, 16] ls.length (fun g mn sm i wr => ∃ k : Nat, g = ls.length - k ∧ k ≤ ls.length ∧ mn = .int .i64 (unitL (ls.take k)) ∧ sm = .int .i64 (costL (ls.take k)) ∧ i = .int .i64 (k : Int) ∧ Below w3.heap.size w3 wr)
    case atStart => exact ⟨0, rfl, by omega, rfl, rfl, rfl, Below.refl _ _⟩
    case round =>
      obtain ⟨k, hgk, hk, rfl, rfl, rfl, hbw⟩ := hrel
      have HG := Lib.hid hgk
      have HBW := Lib.hid hbw
      clear hgk hbw
      by_cases hlt : k < ls.length
      · obtain ⟨ad, hae, x0, x1, x2⟩ := (HL3.out.below HBW.out).at3 k hlt _ _ _ rfl
        subst hae
        obtain ⟨q1, q2, q3, q4, q5⟩ := HLN.out _ (List.getElem_mem hlt)
        obtain ⟨q6, q7⟩ := HBL.out _ (List.getElem_mem hlt)
        have hc := cost_bound (ls.take k) (fun y hy => HBL.out y (List.mem_of_mem_take hy))
        have hu := unit_bound (ls.take k) 2097151 (fun y hy => by obtain ⟨z1, z2, _⟩ := HLN.out y (List.mem_of_mem_take hy); omega)
        have hl8 : (ls.take k).length ≤ 8 := by simp; omega
        have HS1 := Lib.hid (show costL (ls.take (k + 1)) = costL (ls.take k) + ls[k].cost by
          rw [List.take_succ_eq_append_getElem hlt]
          unfold costL
          rw [List.map_append, List.sum_append]
          simp only [List.map_cons, List.map_nil, List.sum_cons, List.sum_nil]
          omega)
        have HS2 := Lib.hid (show unitL (ls.take (k + 1)) = unitL (ls.take k) + ls[k].units by
          rw [List.take_succ_eq_append_getElem hlt]
          unfold unitL
          rw [List.map_append, List.sum_append]
          simp only [List.map_cons, List.map_nil, List.sum_cons, List.sum_nil]
          omega)
        have hk0 : (0 : Int) ≤ (k : Int) := by omega
        have hk1 : (k : Int) < (ls.length : Int) := by omega
        generalize costL (ls.take k) = cs at *
        generalize unitL (ls.take k) = us at *
        generalize ls[k].units = xu at *
        generalize ls[k].price = xp at *
        generalize ls[k].cost = xc at *
        have hw : Go.RowKit.wrap64 (xu * xp) = xu * xp := by unfold Go.RowKit.wrap64; omega
        have t1 : ¬ xu < 1 := by omega
        have t2 : (xc != xu * xp) = false := by simp [q3]
        have t3 : (xc == xu * xp) = true := by simp [q3]
        have Q3 := Lib.hid q3
        clear q3
        go_wp2_with (fail)
        go_roundg (ls.length - (k + 1))
        case measure => have := HG.out; omega
        case rel => exact ⟨k + 1, rfl, by omega, by rw [HS2.out], by rw [HS1.out], by go_num, blw_alloc HBW.out _⟩
      · obtain rfl : k = ls.length := by omega
        simp only [List.take_length, HUN.out]
        have hge : ¬ ((ls.length : Int) < (ls.length : Int)) := by omega
        have t4 : (n == n) = true := by simp
        generalize costL ls = cs at *
        have t5 : (cs == cs) = true := by simp
        go_wp2_with (fail)
        go_ret
        exact ⟨rfl, below_then' HB3.out HBW.out⟩
  · obtain rfl : mx = (10000000 - ff) := by omega
    clear hmx
    go_wp2_with (fail)
    go_at_call 11
    refine (picked_any u ((10000000 - ff) + 1) _ (by omega) (by omega) (by omega)).mono ?_
    rintro e w' ⟨rfl, rfl⟩
    have bn := pk_bound u ((10000000 - ff) + 1) (by omega)
    obtain ⟨n, en⟩ : ∃ n, n = pk u ((10000000 - ff) + 1) := ⟨_, rfl⟩
    rw [← en] at bn ⊢
    obtain ⟨bn0, bn1⟩ := bn
    clear en
    go_wp2_with (fail)
    go_at_call 20
    refine (HBI.out B q ff n _ HR1.out (by omega) (by omega) (by omega) (by omega)).mono ?_
    rintro e w2 ⟨D, dq, rfl, ho, hb⟩
    have HR2 := Lib.hid (HR1.out.below hb)
    have HB2 := Lib.hid (below_then' HB1.out hb)
    have HL2 := Lib.hid ho.read
    have HLN := Lib.hid (bill_lines ts 0 ff n HT.out (by omega))
    have HUN := Lib.hid (bill_units ts 0 ff n HT.out (by omega) (by omega) (by omega))
    have HBL := Lib.hid (bill_cost_ok ts 0 ff n HT.out (by omega) (by omega))
    have hbl := bill_len ts ff n
    clear ho hb
    go_wp2_with (fail)
    go_at_call 19
    refine (HP.out B q ff n _ HR2.out (by omega) (by omega) (by omega) (by omega)).mono ?_
    rintro e w3 ⟨rfl, hb⟩
    have HL3 := Lib.hid (HL2.out.below hb)
    have HB3 := Lib.hid (below_then' HB2.out hb)
    clear hb
    generalize billL ts ff n = ls at *
    have hlm := HL3.out.1
    have hll : ¬ (ts.length : Int) < (ls.length : Int) := by omega
    have hll2 : decide (ts.length < ls.length) = false := decide_eq_false (by omega)
    go_wp2_with (fail)
    go_loopg [14, 15, 16] ls.length (fun g mn sm i wr => ∃ k : Nat, g = ls.length - k ∧ k ≤ ls.length ∧ mn = .int .i64 (unitL (ls.take k)) ∧ sm = .int .i64 (costL (ls.take k)) ∧ i = .int .i64 (k : Int) ∧ Below w3.heap.size w3 wr)
    case atStart => exact ⟨0, rfl, by omega, rfl, rfl, rfl, Below.refl _ _⟩
    case round =>
      obtain ⟨k, hgk, hk, rfl, rfl, rfl, hbw⟩ := hrel
      have HG := Lib.hid hgk
      have HBW := Lib.hid hbw
      clear hgk hbw
      by_cases hlt : k < ls.length
      · obtain ⟨ad, hae, x0, x1, x2⟩ := (HL3.out.below HBW.out).at3 k hlt _ _ _ rfl
        subst hae
        obtain ⟨q1, q2, q3, q4, q5⟩ := HLN.out _ (List.getElem_mem hlt)
        obtain ⟨q6, q7⟩ := HBL.out _ (List.getElem_mem hlt)
        have hc := cost_bound (ls.take k) (fun y hy => HBL.out y (List.mem_of_mem_take hy))
        have hu := unit_bound (ls.take k) 2097151 (fun y hy => by obtain ⟨z1, z2, _⟩ := HLN.out y (List.mem_of_mem_take hy); omega)
        have hl8 : (ls.take k).length ≤ 8 := by simp; omega
        have HS1 := Lib.hid (show costL (ls.take (k + 1)) = costL (ls.take k) + ls[k].cost by
          rw [List.take_succ_eq_append_getElem hlt]
          unfold costL
          rw [List.map_append, List.sum_append]
          simp only [List.map_cons, List.map_nil, List.sum_cons, List.sum_nil]
          omega)
        have HS2 := Lib.hid (show unitL (ls.take (k + 1)) = unitL (ls.take k) + ls[k].units by
          rw [List.take_succ_eq_append_getElem hlt]
          unfold unitL
          rw [List.map_append, List.sum_append]
          simp only [List.map_cons, List.map_nil, List.sum_cons, List.sum_nil]
          omega)
        have hk0 : (0 : Int) ≤ (k : Int) := by omega
        have hk1 : (k : Int) < (ls.length : Int) := by omega
        generalize costL (ls.take k) = cs at *
        generalize unitL (ls.take k) = us at *
        generalize ls[k].units = xu at *
        generalize ls[k].price = xp at *
        generalize ls[k].cost = xc at *
        have hw : Go.RowKit.wrap64 (xu * xp) = xu * xp := by unfold Go.RowKit.wrap64; omega
        have t1 : ¬ xu < 1 := by omega
        have t2 : (xc != xu * xp) = false := by simp [q3]
        have t3 : (xc == xu * xp) = true := by simp [q3]
        have Q3 := Lib.hid q3
        clear q3
        go_wp2_with (fail)
        go_roundg (ls.length - (k + 1))
        case measure => have := HG.out; omega
        case rel => exact ⟨k + 1, rfl, by omega, by rw [HS2.out], by rw [HS1.out], by go_num, blw_alloc HBW.out _⟩
      · obtain rfl : k = ls.length := by omega
        simp only [List.take_length, HUN.out]
        have hge : ¬ ((ls.length : Int) < (ls.length : Int)) := by omega
        have t4 : (n == n) = true := by simp
        generalize costL ls = cs at *
        have t5 : (cs == cs) = true := by simp
        go_wp2_with (fail)
        go_ret
        exact ⟨rfl, below_then' HB3.out HBW.out⟩

end Go.Proofs.Ythalkihhkkgkiaa.TariffLines
