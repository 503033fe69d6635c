/- The walk of TariffRises. -/
import Derived.Test.YthalkihhkkgkiaaStep
namespace Go.Proofs.Ythalkihhkkgkiaa.TariffRises
open Go.RowKit Go.Proofs.Ythalkihhkkgkiaa.Base Go.Proofs.Ythalkihhkkgkiaa.Tar
set_option linter.unusedVariables false
set_option linter.unusedSimpArgs false
set_option maxRecDepth 20000
set_option maxHeartbeats 1000000 in
theorem walk (l : List Debt.Ow) (L : Option Addr) (d : Nat) (f u : Int) (w : World) (hl : RdE 2 Debt.Ow.enc w L l) (hk : ∀ x ∈ l, x.ok) (wf : (Lit.int .i64 f).wf = true) (wu : (Lit.int .i64 u).wf = true) :
    Calls Try.prog 7 #[.slice L l.length d, .int .i64 f, .int .i64 u] w fun e w' => e = .returned (.bool true) ∧ Below w.heap.size w w' := by
  obtain ⟨f0, f1⟩ := i64_bound wf
  obtain ⟨u0, u1⟩ := i64_bound wu
  have HST := Lib.hid (stepped_any l L d w hl hk)
  have hTG := stepped_TG l
  obtain ⟨hn1, hn8⟩ := stepped_len l
  clear hl hk wf wu
  generalize steppedL l = ts at *
  have HT := Lib.hid hTG
  have HP := Lib.hid (fun (B : Option Addr) (q : Nat) (f u : Int) (w1 : World) (hr : RdE 2 Stp.enc w1 B ts) (f0 : 0 ≤ f) (u0 : 0 ≤ u) (u1 : u ≤ 2097151) (fu : f + u ≤ 10000000) => price_any ts B q f u w1 hr hTG hn1 hn8 f0 u0 u1 fu)
  have HBI := Lib.hid (fun (B : Option Addr) (q : Nat) (f u : Int) (w1 : World) (hr : RdE 2 Stp.enc w1 B ts) (f0 : 0 ≤ f) (u0 : 0 ≤ u) (u1 : u ≤ 2097151) (fu : f + u ≤ 10000000) => bill_any ts B q f u w1 hr hTG hn1 hn8 f0 u0 u1 fu)
  have HMO := Lib.hid (fun (B : Option Addr) (q : Nat) (f m : Int) (w1 : World) (hr : RdE 2 Stp.enc w1 B ts) (f0 : 0 ≤ f) (f1 : f ≤ 10000000) (m0 : 0 ≤ m) (m1 : m ≤ 1000000000000) => most_any ts B q f m w1 hr hTG hn1 hn8 f0 f1 m0 m1)
  clear hTG
  go_enter Try.func7, Try.ntmps7
  go_wp2_with (fail)
  go_at_call 18
  refine HST.out.mono ?_
  rintro e w1 ⟨B, q, rfl, hr, hb⟩
  have HR1 := Lib.hid hr
  have HB1 := Lib.hid hb
  clear hr hb HST
  go_wp2_with (fail)
  go_at_call 11
  refine (picked_any f (10000000) _ (by omega) (by omega) (by omega)).mono ?_
  rintro e w' ⟨rfl, rfl⟩
  have bff := pk_bound f (10000000) (by omega)
  obtain ⟨ff, eff⟩ : ∃ n, n = pk f (10000000) := ⟨_, rfl⟩
  rw [← eff] at bff ⊢
  obtain ⟨bff0, bff1⟩ := bff
  clear eff
  have hmn : min 2097151 (10000000 - ff) = min 2097151 (10000000 - ff) := rfl
  obtain ⟨mx, hmx⟩ : ∃ m, m = min 2097151 (10000000 - ff) := ⟨_, rfl⟩
  have hmx1 : 1 ≤ mx ∧ mx ≤ 2097151 ∧ ff + mx ≤ 10000000 := by omega
  obtain ⟨hx1, hx2, hx3⟩ := hmx1
  by_cases hmi : 2097151 ≤ 10000000 - ff
  · obtain rfl : mx = 2097151 := by omega
    clear hmx hmn
    go_wp2_with (fail)
    go_at_call 11
    refine (picked_any u (2097151) _ (by omega) (by omega) (by omega)).mono ?_
    rintro e w' ⟨rfl, rfl⟩
    have bn := pk_bound u (2097151) (by omega)
    obtain ⟨n, en⟩ : ∃ n, n = pk u (2097151) := ⟨_, rfl⟩
    rw [← en] at bn ⊢
    obtain ⟨bn0, bn1⟩ := bn
    clear en
    go_wp2_with (fail)
    go_at_call 19
    refine (HP.out B q (ff) (n) _ HR1.out (by omega) (by omega) (by omega) (by omega)).mono ?_
    rintro e w2 ⟨rfl, hb⟩
    have HR2 := Lib.hid (HR1.out.below hb)
    have HB2 := Lib.hid (below_then' HB1.out hb)
    have cp := bill_cost ts 0 (ff) (n) HT.out (by omega) (by omega)
    obtain ⟨p, ep⟩ : ∃ p, p = costL (billL ts (ff) (n)) := ⟨_, rfl⟩
    rw [← ep] at cp ⊢
    clear ep hb
    have CP := Lib.hid cp
    clear cp
    go_wp2_with (fail)
    go_at_call 19
    refine (HP.out B q (ff) (n + 1) _ HR2.out (by omega) (by omega) (by omega) (by omega)).mono ?_
    rintro e w3 ⟨rfl, hb⟩
    have HR3 := Lib.hid (HR2.out.below hb)
    have HB3 := Lib.hid (below_then' HB2.out hb)
    have cr := bill_cost ts 0 (ff) (n + 1) HT.out (by omega) (by omega)
    obtain ⟨r, er⟩ : ∃ p, p = costL (billL ts (ff) (n + 1)) := ⟨_, rfl⟩
    rw [← er] at cr ⊢
    clear er hb
    have hst := cum_step ts 0 (ff + n) HT.out (by omega) (by omega)
    have HPA := Lib.hid (show r - p = priceAt ts (ff + n) by have := CP.out; rw [show ff + n + 1 = ff + (n + 1) by omega] at hst; omega)
    have hpp := priceAt_pos ts 0 (ff + n) HT.out (by omega) (by omega)
    have m1 := cum_mono ts 0 ff HT.out (by omega) n.toNat (by omega)
    rw [show ((n.toNat : Nat) : Int) = n by omega] at m1
    have hp0 : 0 ≤ p := by have := CP.out; omega
    have hp1 : p ≤ 1000000000000 := by have := CP.out; omega
    have hr0 : 0 ≤ r := by have := HPA.out; omega
    have hr1 : r ≤ 1000000100000 := by have := HPA.out; omega
    clear cr hst hpp m1
    have HMX := Lib.hid HR3.out.1
    have hmx2 := HMX.out
    go_wp2_with (fail)
    go_loopg [14] ts.length (fun g i wr => ∃ k : Nat, g = ts.length - k ∧ k ≤ ts.length ∧ i = .int .i64 (k : Int) ∧ Below w.heap.size w wr ∧ Below w3.heap.size w3 wr ∧ priceAt (ts.drop k) (ff + n) = priceAt ts (ff + n) ∧ ∀ s ∈ ts.take k, ¬ ff + n < s.upto)
    case atStart => exact ⟨0, rfl, by omega, rfl, HB3.out, Below.refl _ _, rfl, by simp⟩
    case round =>
      obtain ⟨k, hgk, hk, rfl, hbl, hb3, hpa, hno⟩ := hrel
      have HG := Lib.hid hgk
      have HBL := Lib.hid hbl
      have HB3' := Lib.hid hb3
      have HPK := Lib.hid hpa
      have HNO := Lib.hid hno
      clear hgk hbl hb3 hpa hno
      by_cases hlt : k < ts.length
      · obtain ⟨ad, hae, x0, x1⟩ := (HR3.out.below HB3'.out).at2 k hlt _ _ rfl
        subst hae
        have hd : ts.drop k = ts[k] :: ts.drop (k + 1) := List.drop_eq_getElem_cons hlt
        have HD := Lib.hid hd
        have htk := Lib.hid (List.take_succ_eq_append_getElem hlt)
        obtain ⟨⟨v0, v1⟩, v2, v3⟩ := HT.out.each (by omega) _ (List.getElem_mem hlt)
        have hk0 : (0 : Int) ≤ (k : Int) := by omega
        have hk1 : (k : Int) < (ts.length : Int) := by omega
        clear hd
        by_cases hc : ff + n < ts[k].upto
        · have hpe : priceAt ts (ff + n) = ts[k].price := by
            rw [← HPK.out, HD.out]
            show (if _ then _ else _) = _
            rw [if_pos hc]
          have hc2 : ff + n + 1 ≤ ts[k].upto := by omega
          have HQ := Lib.hid (show r - p = ts[k].price by rw [HPA.out, hpe])
          clear hpe
          generalize ts[k].upto = up at *
          generalize ts[k].price = pp at *
          have t9 : (r - p == pp) = true := by have := HQ.out; simp; omega
          go_wp2_with (fail)
          go_ret
          exact ⟨rfl, HBL.out⟩
        · have hpe : priceAt (ts.drop (k + 1)) (ff + n) = priceAt ts (ff + n) := by
            rw [← HPK.out, HD.out]
            show _ = (if _ then _ else _)
            rw [if_neg hc]
          have HQ := Lib.hid hpe
          have HN2 := Lib.hid (show ∀ s ∈ ts.take (k + 1), ¬ ff + n < s.upto by
            rw [htk.out]
            intro s hs
            rcases List.mem_append.1 hs with h | h
            · exact HNO.out s h
            · simp at h
              subst h
              exact hc)
          have hc2 : ¬ ff + n + 1 ≤ ts[k].upto := by omega
          clear hpe
          generalize ts[k].upto = up at *
          generalize ts[k].price = pp at *
          go_wp2_with (fail)
          go_roundg (ts.length - (k + 1))
          case measure => have := HG.out; omega
          case rel => exact ⟨k + 1, rfl, by omega, by go_num, HBL.out, HB3'.out, HQ.out, HN2.out⟩
      · exfalso
        have hkk : k = ts.length := by omega
        have h1 := HNO.out (ts[ts.length - 1]'(by omega)) (by rw [List.take_of_length_le (show ts.length ≤ k by omega)]; exact List.getElem_mem _)
        rw [HT.out.last (by omega)] at h1
        omega
  · obtain rfl : mx = (10000000 - ff) := by omega
    clear hmx hmn
    go_wp2_with (fail)
    go_at_call 11
    refine (picked_any u ((10000000 - ff)) _ (by omega) (by omega) (by omega)).mono ?_
    rintro e w' ⟨rfl, rfl⟩
    have bn := pk_bound u ((10000000 - ff)) (by omega)
    obtain ⟨n, en⟩ : ∃ n, n = pk u ((10000000 - ff)) := ⟨_, rfl⟩
    rw [← en] at bn ⊢
    obtain ⟨bn0, bn1⟩ := bn
    clear en
    go_wp2_with (fail)
    go_at_call 19
    refine (HP.out B q (ff) (n) _ HR1.out (by omega) (by omega) (by omega) (by omega)).mono ?_
    rintro e w2 ⟨rfl, hb⟩
    have HR2 := Lib.hid (HR1.out.below hb)
    have HB2 := Lib.hid (below_then' HB1.out hb)
    have cp := bill_cost ts 0 (ff) (n) HT.out (by omega) (by omega)
    obtain ⟨p, ep⟩ : ∃ p, p = costL (billL ts (ff) (n)) := ⟨_, rfl⟩
    rw [← ep] at cp ⊢
    clear ep hb
    have CP := Lib.hid cp
    clear cp
    go_wp2_with (fail)
    go_at_call 19
    refine (HP.out B q (ff) (n + 1) _ HR2.out (by omega) (by omega) (by omega) (by omega)).mono ?_
    rintro e w3 ⟨rfl, hb⟩
    have HR3 := Lib.hid (HR2.out.below hb)
    have HB3 := Lib.hid (below_then' HB2.out hb)
    have cr := bill_cost ts 0 (ff) (n + 1) HT.out (by omega) (by omega)
    obtain ⟨r, er⟩ : ∃ p, p = costL (billL ts (ff) (n + 1)) := ⟨_, rfl⟩
    rw [← er] at cr ⊢
    clear er hb
    have hst := cum_step ts 0 (ff + n) HT.out (by omega) (by omega)
    have HPA := Lib.hid (show r - p = priceAt ts (ff + n) by have := CP.out; rw [show ff + n + 1 = ff + (n + 1) by omega] at hst; omega)
    have hpp := priceAt_pos ts 0 (ff + n) HT.out (by omega) (by omega)
    have m1 := cum_mono ts 0 ff HT.out (by omega) n.toNat (by omega)
    rw [show ((n.toNat : Nat) : Int) = n by omega] at m1
    have hp0 : 0 ≤ p := by have := CP.out; omega
    have hp1 : p ≤ 1000000000000 := by have := CP.out; omega
    have hr0 : 0 ≤ r := by have := HPA.out; omega
    have hr1 : r ≤ 1000000100000 := by have := HPA.out; omega
    clear cr hst hpp m1
    have HMX := Lib.hid HR3.out.1
    have hmx2 := HMX.out
    go_wp2_with (fail)
    go_loopg [14] ts.length (fun g i wr => ∃ k : Nat, g = ts.length - k ∧ k ≤ ts.length ∧ i = .int .i64 (k : Int) ∧ Below w.heap.size w wr ∧ Below w3.heap.size w3 wr ∧ priceAt (ts.drop k) (ff + n) = priceAt ts (ff + n) ∧ ∀ s ∈ ts.take k, ¬ ff + n < s.upto)
    case atStart => exact ⟨0, rfl, by omega, rfl, HB3.out, Below.refl _ _, rfl, by simp⟩
    case round =>
      obtain ⟨k, hgk, hk, rfl, hbl, hb3, hpa, hno⟩ := hrel
      have HG := Lib.hid hgk
      have HBL := Lib.hid hbl
      have HB3' := Lib.hid hb3
      have HPK := Lib.hid hpa
      have HNO := Lib.hid hno
      clear hgk hbl hb3 hpa hno
      by_cases hlt : k < ts.length
      · obtain ⟨ad, hae, x0, x1⟩ := (HR3.out.below HB3'.out).at2 k hlt _ _ rfl
        subst hae
        have hd : ts.drop k = ts[k] :: ts.drop (k + 1) := List.drop_eq_getElem_cons hlt
        have HD := Lib.hid hd
        have htk := Lib.hid (List.take_succ_eq_append_getElem hlt)
        obtain ⟨⟨v0, v1⟩, v2, v3⟩ := HT.out.each (by omega) _ (List.getElem_mem hlt)
        have hk0 : (0 : Int) ≤ (k : Int) := by omega
        have hk1 : (k : Int) < (ts.length : Int) := by omega
        clear hd
        by_cases hc : ff + n < ts[k].upto
        · have hpe : priceAt ts (ff + n) = ts[k].price := by
            rw [← HPK.out, HD.out]
            show (if _ then _ else _) = _
            rw [if_pos hc]
          have hc2 : ff + n + 1 ≤ ts[k].upto := by omega
          have HQ := Lib.hid (show r - p = ts[k].price by rw [HPA.out, hpe])
          clear hpe
          generalize ts[k].upto = up at *
          generalize ts[k].price = pp at *
          have t9 : (r - p == pp) = true := by have := HQ.out; simp; omega
          go_wp2_with (fail)
          go_ret
          exact ⟨rfl, HBL.out⟩
        · have hpe : priceAt (ts.drop (k + 1)) (ff + n) = priceAt ts (ff + n) := by
            rw [← HPK.out, HD.out]
            show _ = (if _ then _ else _)
            rw [if_neg hc]
          have HQ := Lib.hid hpe
          have HN2 := Lib.hid (show ∀ s ∈ ts.take (k + 1), ¬ ff + n < s.upto by
            rw [htk.out]
            intro s hs
            rcases List.mem_append.1 hs with h | h
            · exact HNO.out s h
            · simp at h
              subst h
              exact hc)
          have hc2 : ¬ ff + n + 1 ≤ ts[k].upto := by omega
          clear hpe
          generalize ts[k].upto = up at *
          generalize ts[k].price = pp at *
          go_wp2_with (fail)
          go_roundg (ts.length - (k + 1))
          case measure => have := HG.out; omega
          case rel => exact ⟨k + 1, rfl, by omega, by go_num, HBL.out, HB3'.out, HQ.out, HN2.out⟩
      · exfalso
        have hkk : k = ts.length := by omega
        have h1 := HNO.out (ts[ts.length - 1]'(by omega)) (by rw [List.take_of_length_le (show ts.length ≤ k by omega)]; exact List.getElem_mem _)
        rw [HT.out.last (by omega)] at h1
        omega

end Go.Proofs.Ythalkihhkkgkiaa.TariffRises
