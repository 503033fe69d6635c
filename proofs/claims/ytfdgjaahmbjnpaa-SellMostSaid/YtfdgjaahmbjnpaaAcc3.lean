/- Contracts: account.Roll; the laws' helpers gone, sameAccount. -/
import Derived.Test.YtfdgjaahmbjnpaaAcc2
import Derived.Test.YtfdgjaahmbjnpaaOpenOw
namespace Go.Proofs.Ytfdgjaahmbjnpaa.Acc
open Go.RowKit Go.Proofs.Ytfdgjaahmbjnpaa.Base Go.Proofs.Ytfdgjaahmbjnpaa.Tar
set_option linter.unusedVariables false
set_option linter.unusedSimpArgs false
set_option maxRecDepth 20000
/-- An account's seven cells. -/
def acc (a : Ac) (D : Option Addr) (n dq : Nat) : List Value := [.int .i64 a.me, .int .i64 a.rev, .int .i64 a.nx, .int .i64 a.mo, .int .i64 a.bo, .int .i64 a.fr, .slice D n dq]
theorem rd_one {w : World} {g : Nat} {s : Stp} (h : Cs w g [.int .i64 s.upto, .int .i64 s.price]) : RdE 2 Stp.enc w (some ⟨g, 0, none⟩) [s] :=
  ⟨by simp, fun _ => ⟨_, rfl, fun i x hx j u hu => by
    cases i with
    | succ i => simp at hx
    | zero =>
      simp at hx
      subst hx
      rw [add_plain]
      have : [Value.int .i64 s.upto, .int .i64 s.price][j]? = some u := hu
      simpa using (h.at j this).1⟩⟩
theorem TG_one : TG 0 [⟨10000000, 1⟩] := ⟨by show (0 : Int) < 10000000; omega, Int.le_refl _, Int.le_refl _, by show (1 : Int) ≤ 100000; omega, rfl⟩
theorem own_set7 {w : World} {B : Nat} {e : TypeId} {k n : Nat} {v : Value} {xs : List Value} (h : w.ownsRow B e k v n xs) (R : Nat) (hR : R < B) (v0 v1 v2 v3 v4 v5 v6 : Value) : (((((((w.setCell ⟨R, 0, none⟩ v0).setCell ⟨R, 1, none⟩ v1).setCell ⟨R, 2, none⟩ v2).setCell ⟨R, 3, none⟩ v3).setCell ⟨R, 4, none⟩ v4).setCell ⟨R, 5, none⟩ v5).setCell ⟨R, 6, none⟩ v6).ownsRow B e k v n xs :=
  ownsRow_setCell_below (a := ⟨R, 6, none⟩) (ownsRow_setCell_below (a := ⟨R, 5, none⟩) (ownsRow_setCell_below (a := ⟨R, 4, none⟩) (ownsRow_setCell_below (a := ⟨R, 3, none⟩) (ownsRow_setCell_below (a := ⟨R, 2, none⟩) (ownsRow_setCell_below (a := ⟨R, 1, none⟩) (ownsRow_setCell_below (a := ⟨R, 0, none⟩) (h) hR _) hR _) hR _) hR _) hR _) hR _) hR _
theorem below_set7 {w0 w : World} {B : Nat} (h : Below B w0 w) (R : Nat) (hR : B ≤ R) (v0 v1 v2 v3 v4 v5 v6 : Value) : Below B w0 (((((((w.setCell ⟨R, 0, none⟩ v0).setCell ⟨R, 1, none⟩ v1).setCell ⟨R, 2, none⟩ v2).setCell ⟨R, 3, none⟩ v3).setCell ⟨R, 4, none⟩ v4).setCell ⟨R, 5, none⟩ v5).setCell ⟨R, 6, none⟩ v6) :=
  (((((((h).setCell (p := ⟨R, 0, none⟩) hR _).setCell (p := ⟨R, 1, none⟩) hR _).setCell (p := ⟨R, 2, none⟩) hR _).setCell (p := ⟨R, 3, none⟩) hR _).setCell (p := ⟨R, 4, none⟩) hR _).setCell (p := ⟨R, 5, none⟩) hR _).setCell (p := ⟨R, 6, none⟩) hR _
set_option maxHeartbeats 4000000 in
theorem Roll_any (a : Ac) (ds : List Debt.Db) (A : Option Addr) (q : Nat) (month : Int) (w : World) (hr : RdE 2 Debt.Db.enc w A ds) (hn : ds.length ≤ 8) (hk : ∀ x ∈ ds, x.ok) (hA : A = none → ds = [] ∧ q = 0) (ha : a.ok) (m0 : a.mo ≤ month) (m1 : month ≤ 2399) :
    Calls Try.prog 19 #[.agg #[.int .i64 a.me, .int .i64 a.rev, .int .i64 a.nx, .int .i64 a.mo, .int .i64 a.bo, .int .i64 a.fr, .slice A ds.length q], .int .i64 month] w fun e w' => ∃ D dq, e = .returned (.tuple #[.agg #[.int .i64 a.me, .int .i64 a.rev, .int .i64 a.nx, .int .i64 month, .int .i64 (if month = a.mo then a.bo else 0), .int .i64 a.fr, .slice D (Debt.ageL (month - a.mo).toNat ds).length dq], .int .i64 0]) ∧ Debt.OwDb w.heap.size w' D dq (Debt.ageL (month - a.mo).toNat ds) ∧ Below w.heap.size w w' := by
  have a0 := ha.2.2.2.1.1
  have HO := Lib.hid (fun W T hrd ht => open_any a ds A q [⟨10000000, 1⟩] T 1 ⟨0, 0, 0, 0⟩ W hrd hn hk hA ha ht TG_one (Nat.le_refl _) (by decide) ⟨⟨by decide, by decide⟩, ⟨by decide, by decide⟩, ⟨by decide, by decide⟩, by decide, by decide⟩)
  have HL := Lib.hid (fun b D dq T tq B0 W hc hD hB => roll_any a ds D dq T 1 tq ⟨0, 0, 0, 0⟩ month b B0 W hc hD hB a0 m0 m1 hn hk)
  have HR := Lib.hid hr
  clear hr ha
  unfold rollA clk at HL
  obtain ⟨me, rev, nx, mo, bo, fr⟩ := a
  simp only at *
  generalize (if month = mo then bo else 0) = bo2 at *
  generalize (month - mo).toNat = n at *
  go_enter Try.func19, Try.ntmps19
  go_wp2_with (fail)
  go_at_call 36
  have hs2 : ((w.alloc (.cells #[.int .i64 me, .int .i64 rev, .int .i64 nx, .int .i64 mo, .int .i64 bo, .int .i64 fr, .slice A ds.length q] 53)).alloc (.cells #[.int .i64 0, .int .i64 0, .int .i64 0, .int .i64 0, .int .i64 0, .int .i64 0, .slice none 0 0] 53)).heap.size = w.heap.size + 1 + 1 := by rw [World.size_alloc, World.size_alloc]
  have hs1 : (w.alloc (.cells #[.int .i64 me, .int .i64 rev, .int .i64 nx, .int .i64 mo, .int .i64 bo, .int .i64 fr, .slice A ds.length q] 53)).heap.size = w.heap.size + 1 := World.size_alloc _ _
  refine (HO.out _ _ (HR.out.below (blw_alloc (blw_alloc (blw_alloc (Below.refl _ _) _) _) _)) (rd_one (Cs.new hs2.symm))).mono ?_
  rintro e w1 ⟨b, D, dq, rfl, hbl, hcs, hod, hb⟩
  have CR := Lib.hid ((show Cs (((w.alloc (.cells #[.int .i64 me, .int .i64 rev, .int .i64 nx, .int .i64 mo, .int .i64 bo, .int .i64 fr, .slice A ds.length q] 53)).alloc (.cells #[.int .i64 0, .int .i64 0, .int .i64 0, .int .i64 0, .int .i64 0, .int .i64 0, .slice none 0 0] 53)).alloc (.cells #[.int .i64 10000000, .int .i64 1] 118)) (w.heap.size + 1) [.int .i64 0, .int .i64 0, .int .i64 0, .int .i64 0, .int .i64 0, .int .i64 0, .slice none 0 0] from (Cs.new hs1.symm).alloc _).after hb)
  have HB1 := Lib.hid (below_then' (blw_alloc (blw_alloc (blw_alloc (Below.refl _ _) _) _) _) hb)
  simp only [World.size_alloc] at hbl hod
  have hlb := hcs.1
  have HC1 := Lib.hid hcs
  have HD1 := Lib.hid hod
  clear hb hcs hod hs2 hs1
  go_wp2_with (fail)
  go_at_call 37
  refine (HL.out b D dq _ 1 _ w1 HC1.out HD1.out (by omega)).mono ?_
  rintro e w2 ⟨rfl, D2, dq2, hcs, hod, hb⟩
  have CR2 := Lib.hid (CR.out.below hb (by omega))
  have HB2 := Lib.hid (HB1.out.trans (hb.mono (show w.heap.size ≤ b by omega)))
  have HD2 := Lib.hid hod
  have nRb : w.heap.size + 1 ≠ b := by omega
  have nbR : b ≠ w.heap.size + 1 := by omega
  have lR := CR2.out.1
  have lb := hcs.1
  have y0 := (hcs.at 0 rfl).1
  have y1 := (hcs.at 1 rfl).1
  have y2 := (hcs.at 2 rfl).1
  have y3 := (hcs.at 3 rfl).1
  have y4 := (hcs.at 4 rfl).1
  have y5 := (hcs.at 5 rfl).1
  have y6 := (hcs.at 6 rfl).1
  have z0 := (CR2.out.at 0 rfl).1
  have f0 := (CR2.out.at 0 rfl).2
  have z1 := (CR2.out.at 1 rfl).1
  have f1 := (CR2.out.at 1 rfl).2
  have z2 := (CR2.out.at 2 rfl).1
  have f2 := (CR2.out.at 2 rfl).2
  have z3 := (CR2.out.at 3 rfl).1
  have f3 := (CR2.out.at 3 rfl).2
  have z4 := (CR2.out.at 4 rfl).1
  have f4 := (CR2.out.at 4 rfl).2
  have z5 := (CR2.out.at 5 rfl).1
  have f5 := (CR2.out.at 5 rfl).2
  have z6 := (CR2.out.at 6 rfl).1
  have f6 := (CR2.out.at 6 rfl).2
  clear hb hcs hod
  go_wp2_with (fail)
  refine bodyPost_ret (v := .tuple #[.agg #[.int .i64 me, .int .i64 rev, .int .i64 nx, .int .i64 month, .int .i64 bo2, .int .i64 fr, .slice D2 (Debt.ageL n ds).length dq2], .int .i64 0]) (by simp [results, Try.results19, go_sem, z0, f0, z1, f1, z2, f2, z3, f3, z4, f4, z5, f5, z6, f6]) rfl ⟨D2, dq2, rfl, own_less (own_set7 HD2.out _ (by omega) _ _ _ _ _ _ _) (by omega), below_set7 HB2.out _ (by omega) _ _ _ _ _ _ _⟩
end Go.Proofs.Ytfdgjaahmbjnpaa.Acc
