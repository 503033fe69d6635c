/- The walk of TariffMost. -/
import Derived.Test.YthalkihhkkgkiaaStep
namespace Go.Proofs.Ythalkihhkkgkiaa.TariffMost
open Go.RowKit Go.Proofs.Ythalkihhkkgkiaa.Base Go.Proofs.Ythalkihhkkgkiaa.Tar
set_option linter.unusedVariables false
set_option linter.unusedSimpArgs false
set_option maxRecDepth 20000
set_option maxHeartbeats 1000000 in
theorem walk (l : List Debt.Ow) (L : Option Addr) (d : Nat) (f m : Int) (w : World) (hl : RdE 2 Debt.Ow.enc w L l) (hk : ∀ x ∈ l, x.ok) (wf : (Lit.int .i64 f).wf = true) (wm : (Lit.int .i64 m).wf = true) :
    Calls Try.prog 9 #[.slice L l.length d, .int .i64 f, .int .i64 m] w fun e w' => e = .returned (.bool true) ∧ Below w.heap.size w w' := by
  obtain ⟨f0, f1⟩ := i64_bound wf
  obtain ⟨m0, m1⟩ := i64_bound wm
  have HST := Lib.hid (stepped_any l L d w hl hk)
  have hTG := stepped_TG l
  obtain ⟨hn1, hn8⟩ := stepped_len l
  clear hl hk wf wm
  generalize steppedL l = ts at *
  have HT := Lib.hid hTG
  have HP := Lib.hid (fun (B : Option Addr) (q : Nat) (f u : Int) (w1 : World) (hr : RdE 2 Stp.enc w1 B ts) (f0 : 0 ≤ f) (u0 : 0 ≤ u) (u1 : u ≤ 2097151) (fu : f + u ≤ 10000000) => price_any ts B q f u w1 hr hTG hn1 hn8 f0 u0 u1 fu)
  have HBI := Lib.hid (fun (B : Option Addr) (q : Nat) (f u : Int) (w1 : World) (hr : RdE 2 Stp.enc w1 B ts) (f0 : 0 ≤ f) (u0 : 0 ≤ u) (u1 : u ≤ 2097151) (fu : f + u ≤ 10000000) => bill_any ts B q f u w1 hr hTG hn1 hn8 f0 u0 u1 fu)
  have HMO := Lib.hid (fun (B : Option Addr) (q : Nat) (f m : Int) (w1 : World) (hr : RdE 2 Stp.enc w1 B ts) (f0 : 0 ≤ f) (f1 : f ≤ 10000000) (m0 : 0 ≤ m) (m1 : m ≤ 1000000000000) => most_any ts B q f m w1 hr hTG hn1 hn8 f0 f1 m0 m1)
  clear hTG
  go_enter Try.func9, Try.ntmps9
  go_wp2_with (fail)
  go_at_call 18
  refine HST.out.mono ?_
  rintro e w1 ⟨B, q, rfl, hr, hb⟩
  have HR1 := Lib.hid hr
  have HB1 := Lib.hid hb
  clear hr hb HST
  go_wp2_with (fail)
  go_at_call 11
  refine (picked_any f (10000001) _ (by omega) (by omega) (by omega)).mono ?_
  rintro e w' ⟨rfl, rfl⟩
  have bff := pk_bound f (10000001) (by omega)
  obtain ⟨ff, eff⟩ : ∃ n, n = pk f (10000001) := ⟨_, rfl⟩
  rw [← eff] at bff ⊢
  obtain ⟨bff0, bff1⟩ := bff
  clear eff
  go_wp2_with (fail)
  go_at_call 11
  refine (picked_any m (1000000000001) _ (by omega) (by omega) (by omega)).mono ?_
  rintro e w' ⟨rfl, rfl⟩
  have bmm := pk_bound m (1000000000001) (by omega)
  obtain ⟨mm, emm⟩ : ∃ n, n = pk m (1000000000001) := ⟨_, rfl⟩
  rw [← emm] at bmm ⊢
  obtain ⟨bmm0, bmm1⟩ := bmm
  clear emm
  have ML := most_law mm ts 0 ff 0 0 HT.out (by omega) (by omega) (by omega) (by omega) (by omega) (by omega) _ rfl
  go_wp2_with (fail)
  go_at_call 21
  refine (HMO.out B q ff mm _ HR1.out (by omega) (by omega) (by omega) (by omega)).mono ?_
  rintro e w2 ⟨rfl, hb⟩
  have HR2 := Lib.hid (HR1.out.below hb)
  have HB2 := Lib.hid (below_then' HB1.out hb)
  clear hb
  generalize mostL mm ts ff 0 0 = r at *
  obtain ⟨u, p⟩ := r
  simp only at ML ⊢
  obtain ⟨u0, u1, u2, p0, p1, p2, p3⟩ := ML
  rw [show u - 0 = u by omega] at u2 p2 p3
  have P2 := Lib.hid p2
  have P3 := Lib.hid p3
  clear p2 p3
  go_wp2_with (fail)
  go_at_call 19
  refine (HP.out B q (ff) (u) _ HR2.out (by omega) (by omega) (by omega) (by omega)).mono ?_
  rintro e w3 ⟨rfl, hb⟩
  have HR3 := Lib.hid (HR2.out.below hb)
  have HB3 := Lib.hid (below_then' HB2.out hb)
  have cr := bill_cost ts 0 (ff) (u) HT.out (by omega) (by omega)
  obtain ⟨r, er⟩ : ∃ p, p = costL (billL ts (ff) (u)) := ⟨_, rfl⟩
  rw [← er] at cr ⊢
  clear er hb
  have hpr : p = r := by have := P2.out; omega
  clear cr
  have t1 : (p != r) = false := by simp [hpr]
  have t1' : (p == r) = true := by simp [hpr]
  have HPR := Lib.hid hpr
  clear hpr
  have t2 : ¬ mm < p := by omega
  by_cases h1 : u = 2097151
  · have t3 : (u == 2097151) = true := by simp [h1]
    clear h1
    go_wp2
    go_ret
    exact ⟨rfl, HB3.out⟩
  · have t3 : (u == 2097151) = false := by simp [h1]
    by_cases h2 : ff + u = 10000000
    · have t4 : (ff + u == 10000000) = true := by simp [h2]
      clear h1 h2
      go_wp2
      go_ret
      exact ⟨rfl, HB3.out⟩
    · have t4 : (ff + u == 10000000) = false := by simp [h2]
      have P4 := Lib.hid (show mm < cum 0 ts (ff + u + 1) - cum 0 ts ff by rcases P3.out with h | h | h <;> omega)
      have h5 : u < 2097151 := by omega
      have h6 : ff + u < 10000000 := by omega
      clear h1 h2
      go_wp2_with (fail)
      go_at_call 19
      refine (HP.out B q (ff) (u + 1) _ HR3.out (by omega) (by omega) (by omega) (by omega)).mono ?_
      rintro e w4 ⟨rfl, hb⟩
      have HR4 := Lib.hid (HR3.out.below hb)
      have HB4 := Lib.hid (below_then' HB3.out hb)
      have cs := bill_cost ts 0 (ff) (u + 1) HT.out (by omega) (by omega)
      obtain ⟨s, es⟩ : ∃ p, p = costL (billL ts (ff) (u + 1)) := ⟨_, rfl⟩
      rw [← es] at cs ⊢
      clear es hb
      have t5 : mm < s := by have := P4.out; rw [show ff + u + 1 = ff + (u + 1) by omega] at this; omega
      clear cs
      go_wp2
      go_ret
      exact ⟨rfl, HB4.out⟩

end Go.Proofs.Ythalkihhkkgkiaa.TariffMost
