/- The walk of SlotBack. -/
import Derived.Test.YthalkihhkkgkiaaSlots
namespace Go.Proofs.Ythalkihhkkgkiaa.SlotBack
open Go.RowKit Go.Proofs.Ythalkihhkkgkiaa.Base Go.Proofs.Ythalkihhkkgkiaa.Cell
set_option linter.unusedVariables false
set_option linter.unusedSimpArgs false
set_option maxRecDepth 20000
set_option maxHeartbeats 2000000 in
theorem walk (sz : Int) (recs : List (List UInt32)) (A : Option Addr) (q : Nat) (w : World) (wz : (Lit.int .i64 sz).wf = true) (hr : Open.RdR 1 (fun (xs : List UInt32) cs => ∃ A c, cs = [Value.slice A xs.length c] ∧ xs.length ≤ c ∧ Open.RdR 1 (fun (x : UInt32) cs => cs = encW x) w A xs) w A recs) :
    Calls Try.prog 3 #[.int .i64 sz, .slice A recs.length q] w fun e w' => e = .returned (.bool true) ∧ Below w.heap.size w w' := by
  obtain ⟨s0, s1⟩ := i64_bound wz
  clear wz
  obtain ⟨p0, p1⟩ := pk_bound sz 20 (by omega)
  obtain ⟨m, hm⟩ : ∃ m : Nat, pk sz 20 = (m : Int) := ⟨(pk sz 20).toNat, by omega⟩
  have hp := fun w => picked_any sz 20 w s0 s1 (by omega)
  rw [hm] at hp p0 p1
  have HP := Lib.hid hp
  have RR := Lib.hid (RdS.of hr)
  clear hr hp hm s0 s1
  have e : ((m + 1 : Nat) : Int) = 1 + (m : Int) := by omega
  have hs := fun w hr => slots_any (m + 1) recs A q w hr (by omega) (by omega)
  rw [e] at hs
  have hld := fun c old B p w hc hh hq => load_any c old (m + 1) B p w hc hh (by omega) (by omega) hq
  rw [e] at hld
  have hft := fun l D d w hr => fitted_any l (m + 1) D d w hr (by omega)
  rw [e] at hft
  have HS := Lib.hid hs
  have HLD := Lib.hid hld
  have HFT := Lib.hid hft
  clear hs hld hft e
  obtain ⟨n, hn⟩ : ∃ n, n = m + 1 := ⟨_, rfl⟩
  rw [← hn] at HS HLD HFT
  have hn0 : 1 ≤ n := by omega
  have hn1 : n ≤ 64 := by omega
  clear hn
  have HB : Hid (Below w.heap.size w w) := Lib.hid (Below.refl _ _)
  go_enter Try.func3, Try.ntmps3
  go_wp2_with (fail)
  go_at_call 11
  refine (HP.out _).mono ?_
  rintro e w' ⟨rfl, rfl⟩
  go_wp2_with (fail)
  go_at_call 12
  refine (HS.out _ RR.out).mono ?_
  rintro e w1 ⟨B, p, C, r, c, old, rfl, hh, hoc, hoo, hb⟩
  replace HB : Hid (Below w.heap.size w w1) := Lib.hid (below_then' HB.out hb)
  replace RR := Lib.hid (RR.out.below hb)
  have hpc := Lib.hid (own_cap hoc)
  have RC := Lib.hid (OwW.read hoc)
  have RO := Lib.hid (OwW.read hoo)
  have HH := Lib.hid hh
  clear hoc hoo hh
  clear hb
  go_wp2_with (fail)
  go_at_call 13
  refine (HLD.out c old _ _ _ RC.out HH.out hpc.out).mono ?_
  rintro e w2 ⟨D, d, rfl, ho, hb⟩
  replace HB : Hid (Below w.heap.size w w2) := Lib.hid (below_then' HB.out hb)
  replace RC := Lib.hid (RC.out.below hb)
  replace RO := Lib.hid (RO.out.below hb)
  have RD := Lib.hid (OwW.read ho)
  clear ho
  clear hb 
  go_wp2_with (go_at_call 14; refine (same_any _ _ _ _ _ _ _ RD.out RO.out).mono ?_; rintro e w9 ⟨rfl, n9, rfl⟩; rw [decide_eq_true rfl])
  go_ret
  exact ⟨rfl, blw_step HB.out _⟩
end Go.Proofs.Ythalkihhkkgkiaa.SlotBack
