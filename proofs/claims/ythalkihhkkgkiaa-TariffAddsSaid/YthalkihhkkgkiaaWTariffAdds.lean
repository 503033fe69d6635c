/- The walk of TariffAdds. -/
import Derived.Test.YthalkihhkkgkiaaStep
namespace Go.Proofs.Ythalkihhkkgkiaa.TariffAdds
open Go.RowKit Go.Proofs.Ythalkihhkkgkiaa.Base Go.Proofs.Ythalkihhkkgkiaa.Tar
set_option linter.unusedVariables false
set_option linter.unusedSimpArgs false
set_option maxRecDepth 20000
set_option maxHeartbeats 1000000 in
theorem walk (l : List Debt.Ow) (L : Option Addr) (d : Nat) (f x y : Int) (w : World) (hl : RdE 2 Debt.Ow.enc w L l) (hk : ∀ x ∈ l, x.ok) (wf : (Lit.int .i64 f).wf = true) (wx : (Lit.int .i64 x).wf = true) (wy : (Lit.int .i64 y).wf = true) :
    Calls Try.prog 6 #[.slice L l.length d, .int .i64 f, .int .i64 x, .int .i64 y] w fun e w' => e = .returned (.bool true) ∧ Below w.heap.size w w' := by
  obtain ⟨f0, f1⟩ := i64_bound wf
  obtain ⟨x0, x1⟩ := i64_bound wx
  obtain ⟨y0, y1⟩ := i64_bound wy
  have HST := Lib.hid (stepped_any l L d w hl hk)
  have hTG := stepped_TG l
  obtain ⟨hn1, hn8⟩ := stepped_len l
  clear hl hk wf wx wy
  generalize steppedL l = ts at *
  have HT := Lib.hid hTG
  have HP := Lib.hid (fun (B : Option Addr) (q : Nat) (f u : Int) (w1 : World) (hr : RdE 2 Stp.enc w1 B ts) (f0 : 0 ≤ f) (u0 : 0 ≤ u) (u1 : u ≤ 2097151) (fu : f + u ≤ 10000000) => price_any ts B q f u w1 hr hTG hn1 hn8 f0 u0 u1 fu)
  have HBI := Lib.hid (fun (B : Option Addr) (q : Nat) (f u : Int) (w1 : World) (hr : RdE 2 Stp.enc w1 B ts) (f0 : 0 ≤ f) (u0 : 0 ≤ u) (u1 : u ≤ 2097151) (fu : f + u ≤ 10000000) => bill_any ts B q f u w1 hr hTG hn1 hn8 f0 u0 u1 fu)
  have HMO := Lib.hid (fun (B : Option Addr) (q : Nat) (f m : Int) (w1 : World) (hr : RdE 2 Stp.enc w1 B ts) (f0 : 0 ≤ f) (f1 : f ≤ 10000000) (m0 : 0 ≤ m) (m1 : m ≤ 1000000000000) => most_any ts B q f m w1 hr hTG hn1 hn8 f0 f1 m0 m1)
  clear hTG
  go_enter Try.func6, Try.ntmps6
  go_wp2_with (fail)
  go_at_call 18
  refine HST.out.mono ?_
  rintro e w1 ⟨B, q, rfl, hr, hb⟩
  have HR1 := Lib.hid hr
  have HB1 := Lib.hid hb
  clear hr hb HST
  go_wp2_with (fail)
  go_at_call 11
  refine (picked_any f (7000001) _ (by omega) (by omega) (by omega)).mono ?_
  rintro e w' ⟨rfl, rfl⟩
  have bff := pk_bound f (7000001) (by omega)
  obtain ⟨ff, eff⟩ : ∃ n, n = pk f (7000001) := ⟨_, rfl⟩
  rw [← eff] at bff ⊢
  obtain ⟨bff0, bff1⟩ := bff
  clear eff
  go_wp2_with (fail)
  go_at_call 11
  refine (picked_any x (1000001) _ (by omega) (by omega) (by omega)).mono ?_
  rintro e w' ⟨rfl, rfl⟩
  have ba := pk_bound x (1000001) (by omega)
  obtain ⟨a, ea⟩ : ∃ n, n = pk x (1000001) := ⟨_, rfl⟩
  rw [← ea] at ba ⊢
  obtain ⟨ba0, ba1⟩ := ba
  clear ea
  go_wp2_with (fail)
  go_at_call 11
  refine (picked_any y (1000001) _ (by omega) (by omega) (by omega)).mono ?_
  rintro e w' ⟨rfl, rfl⟩
  have bb := pk_bound y (1000001) (by omega)
  obtain ⟨b, eb⟩ : ∃ n, n = pk y (1000001) := ⟨_, rfl⟩
  rw [← eb] at bb ⊢
  obtain ⟨bb0, bb1⟩ := bb
  clear eb
  have m1 := cum_mono ts 0 ff HT.out (by omega) a.toNat (by omega)
  have m2 := cum_mono ts 0 (ff + a) HT.out (by omega) b.toNat (by omega)
  rw [show ((a.toNat : Nat) : Int) = a by omega] at m1
  rw [show ((b.toNat : Nat) : Int) = b by omega] at m2
  have M1 := Lib.hid m1
  have M2 := Lib.hid m2
  clear m1 m2
  go_wp2_with (fail)
  go_at_call 19
  refine (HP.out B q (ff) (a) _ HR1.out (by omega) (by omega) (by omega) (by omega)).mono ?_
  rintro e w2 ⟨rfl, hb⟩
  have HR2 := Lib.hid (HR1.out.below hb)
  have HB2 := Lib.hid (below_then' HB1.out hb)
  have cp := bill_cost ts 0 (ff) (a) HT.out (by omega) (by omega)
  obtain ⟨p, ep⟩ : ∃ p, p = costL (billL ts (ff) (a)) := ⟨_, rfl⟩
  rw [← ep] at cp ⊢
  clear ep hb
  have CP := Lib.hid cp
  clear cp
  go_wp2_with (fail)
  go_at_call 19
  refine (HP.out B q (ff + a) (b) _ HR2.out (by omega) (by omega) (by omega) (by omega)).mono ?_
  rintro e w3 ⟨rfl, hb⟩
  have HR3 := Lib.hid (HR2.out.below hb)
  have HB3 := Lib.hid (below_then' HB2.out hb)
  have cr := bill_cost ts 0 (ff + a) (b) HT.out (by omega) (by omega)
  obtain ⟨r, er⟩ : ∃ p, p = costL (billL ts (ff + a) (b)) := ⟨_, rfl⟩
  rw [← er] at cr ⊢
  clear er hb
  have CR := Lib.hid cr
  clear cr
  go_wp2_with (fail)
  go_at_call 19
  refine (HP.out B q (ff) (a + b) _ HR3.out (by omega) (by omega) (by omega) (by omega)).mono ?_
  rintro e w4 ⟨rfl, hb⟩
  have HR4 := Lib.hid (HR3.out.below hb)
  have HB4 := Lib.hid (below_then' HB3.out hb)
  have cs := bill_cost ts 0 (ff) (a + b) HT.out (by omega) (by omega)
  obtain ⟨s, es⟩ : ∃ p, p = costL (billL ts (ff) (a + b)) := ⟨_, rfl⟩
  rw [← es] at cs ⊢
  clear es hb
  have m1 := M1.out
  have m2 := M2.out
  have cp := CP.out
  have cr := CR.out
  rw [show ff + a + b = ff + (a + b) by omega] at m2 cr
  have hp0 : 0 ≤ p := by omega
  have hp1 : p ≤ 100000000000000 := by omega
  have hr0 : 0 ≤ r := by omega
  have hr1 : r ≤ 100000000000000 := by omega
  have t1 : (p + r == s) = true := by simp; omega
  by_cases ha : a = 0
  · have t2 : (a == 0) = true := by simp; omega
    have t3 : (p == 0) = true := by simp; omega
    clear m1 m2 cp cr cs ha
    go_wp2
    go_ret
    exact ⟨rfl, HB4.out⟩
  · have t2 : (a == 0) = false := by simp; omega
    have t3 : (p == 0) = false := by simp; omega
    clear m1 m2 cp cr cs ha
    go_wp2
    go_ret
    exact ⟨rfl, HB4.out⟩

end Go.Proofs.Ythalkihhkkgkiaa.TariffAdds
