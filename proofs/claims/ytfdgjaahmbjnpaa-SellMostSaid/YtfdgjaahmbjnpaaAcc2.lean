/- Contracts of package account: (*clerk).roll, Roll; the laws' helpers gone, sameAccount. -/
import Derived.Test.YtfdgjaahmbjnpaaAcc
import Derived.Test.YtfdgjaahmbjnpaaStep
import Derived.Test.YtfdgjaahmbjnpaaAge
import Derived.Deep.RegionHeld3
import Derived.Deep.RegionLaw
namespace Go.Proofs.Ytfdgjaahmbjnpaa.Acc
open Go.RowKit Go.Proofs.Ytfdgjaahmbjnpaa.Base Go.Proofs.Ytfdgjaahmbjnpaa.Tar
set_option linter.unusedVariables false
set_option linter.unusedSimpArgs false
set_option maxRecDepth 20000
/-- A clerk's twelve cells. -/
def clk (a : Ac) (D : Option Addr) (n dq : Nat) (T : Option Addr) (tl tq : Nat) (x : Tm) : List Value := [.int .i64 a.me, .int .i64 a.rev, .int .i64 a.nx, .int .i64 a.mo, .int .i64 a.bo, .int .i64 a.fr, .slice D n dq, .slice T tl tq, .int .i64 x.fix, .int .i64 x.bp, .int .i64 x.dbp, .int .i64 x.al]
def rollA (a : Ac) (m : Int) : Ac := { a with mo := m, bo := if m = a.mo then a.bo else 0 }
theorem age_zero : ∀ ds : List Debt.Db, Debt.ageL 0 ds = ds
  | [] => rfl
  | d :: ds => by
    have := age_zero ds
    unfold Debt.ageL at this ⊢
    rw [List.map_cons, this]
    rfl
set_option maxHeartbeats 2000000 in
theorem roll_any (a : Ac) (ds : List Debt.Db) (D : Option Addr) (dq : Nat) (T : Option Addr) (tl tq : Nat) (x : Tm) (month : Int) (b B0 : Nat) (w : World) (hc : Cs w b (clk a D ds.length dq T tl tq x)) (hD : Debt.OwDb B0 w D dq ds) (hB : B0 ≤ w.heap.size) (a0 : 0 ≤ a.mo) (m0 : a.mo ≤ month) (m1 : month ≤ 2399) (hn : ds.length ≤ 8) (hk : ∀ x ∈ ds, x.ok) :
    Calls Try.prog 37 #[.pointer (some ⟨b, 0, none⟩), .int .i64 month] w fun e w' => e = .returned (.int .i64 0) ∧ ∃ D' dq', Cs w' b (clk (rollA a month) D' (Debt.ageL (month - a.mo).toNat ds).length dq' T tl tq x) ∧ Debt.OwDb B0 w' D' dq' (Debt.ageL (month - a.mo).toNat ds) ∧ Below b w w' := by
  have HC := Lib.hid hc
  have HD := Lib.hid hD
  have HK := Lib.hid hk
  have hbl := hc.1
  have W1 := Lib.hid (show decide ((0 : Int) ≤ month ∧ month ≤ 2399) = true by rw [decide_eq_true_iff]; omega)
  have g3 := (hc.at 3 rfl).1
  have g6 := (hc.at 6 rfl).1
  clear hc hD hk
  by_cases hm : month = a.mo
  · have HM := Lib.hid hm
    have t1 : ¬ month < a.mo := by omega
    have t2 : ¬ a.mo < month := by omega
    clear hm
    go_enter Try.func37, Try.ntmps37
    go_wp2_with ((go_at_call 66; refine (within_any _ _ _ _).mono ?_; rintro e w' ⟨rfl, rfl⟩; rw [W1.out]))
    go_ret
    refine ⟨rfl, D, dq, ?_, ?_, Below.refl _ _⟩
    · rw [HM.out, show (a.mo - a.mo).toNat = 0 by omega, age_zero]
      have : rollA a a.mo = a := by unfold rollA; rw [if_pos rfl]
      rw [this]
      exact HC.out
    · rw [HM.out, show (a.mo - a.mo).toNat = 0 by omega, age_zero]
      exact HD.out
  · have HM := Lib.hid hm
    have t1 : ¬ month < a.mo := by omega
    have t2 : a.mo < month := by omega
    clear hm
    obtain ⟨n, hn2⟩ : ∃ n, n = (month - a.mo).toNat := ⟨_, rfl⟩
    have hni : month - a.mo = (n : Int) := by omega
    have hn3 : n ≤ 2400 := by omega
    rw [← hn2]
    have HI := Lib.hid hni
    have f6 := (HC.out.at 6 rfl).2
    have HA := Lib.hid (fun (W : World) (hW : Below w.heap.size w W) => Debt.age_any ds n (month - a.mo) D dq W (HD.out.read.below hW) hn HK.out HD.out.nil HI.out hn3)
    clear hn2 hni
    have hwm : IntKind.i64.wrap (month - a.mo) = month - a.mo := Base.wrap64 _ (by omega) (by omega)
    go_enter Try.func37, Try.ntmps37
    go_wp2_with ((go_at_call 66; refine (within_any _ _ _ _).mono ?_; rintro e w' ⟨rfl, rfl⟩; rw [W1.out]))
    go_region_law (first | (go_simp; go_at_call 67; refine (HA.out _ (Below.refl _ _).drew).mono ?_; rintro e w1 ⟨E, eq, rfl, ho, hb⟩; have q6 : w1.cell? ⟨b, 6, none⟩ = some (.slice D ds.length dq) := (hb.cell (p := ⟨b, 6, none⟩) hbl).trans g6; have q3 : w1.cell? ⟨b, 3, none⟩ = some (.int .i64 a.mo) := (hb.cell (p := ⟨b, 3, none⟩) hbl).trans g3; have p6 : w1.frozen? ⟨b, 6, none⟩ = false := (hb.frozen (p := ⟨b, 6, none⟩) hbl).trans f6))
    all_goals
      have cb : Cs w1 b (clk a D ds.length dq T tl tq x) := HC.out.drew.after hb
      have hb0 : Below w.heap.size w w1 := (Below.refl _ _).drew.trans hb
      have HB := Lib.hid hb0
      have HO := Lib.hid ho
      have CB := Lib.hid cb
      have k3 := (cb.at 3 rfl).1
      have k4 := (cb.at 4 rfl).1
      have p3 := (cb.at 3 rfl).2
      have p4 := (cb.at 4 rfl).2
      have l1 := cb.1
      clear hb ho cb hb0 g3 g6 f6
      go_wp2
      go_ret
      refine ⟨rfl, E, eq, Cs.put (i := 4) (Cs.put (i := 3) (Cs.put (i := 6) CB.out (by simp [clk]) rfl) (by simp [clk]) rfl) (by simp [clk]) ?_, ?_, (((HB.out.mono (Nat.le_of_lt hbl)).setCell (p := ⟨b, 6, none⟩) (Nat.le_refl _) _).setCell (p := ⟨b, 3, none⟩) (Nat.le_refl _) _).setCell (p := ⟨b, 4, none⟩) (Nat.le_refl _) _⟩
      · unfold rollA
        rw [if_neg HM.out]
        rfl
      · exact own_less (ownsRow_setCell_below (a := ⟨b, 4, none⟩) (ownsRow_setCell_below (a := ⟨b, 3, none⟩) (ownsRow_setCell_below (a := ⟨b, 6, none⟩) HO.out (show b < w.heap.size from hbl) _) (show b < w.heap.size from hbl) _) (show b < w.heap.size from hbl) _) hB
end Go.Proofs.Ytfdgjaahmbjnpaa.Acc
