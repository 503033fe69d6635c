/- The laws' helper agreed; raw terms opened. -/
import Derived.Test.YtfdgjaahmbjnpaaAcc4
import Derived.Test.YtfdgjaahmbjnpaaOpenOw
import Derived.Deep.RegionHeld3
namespace Go.Proofs.Ytfdgjaahmbjnpaa.Acc
open Go.RowKit Go.Proofs.Ytfdgjaahmbjnpaa.Base Go.Proofs.Ytfdgjaahmbjnpaa.Tar
set_option linter.unusedVariables false
set_option linter.unusedSimpArgs false
set_option maxRecDepth 20000
/-- Raw terms. -/
structure Dl where
  tf : List Debt.Ow
  ff : Int
  fb : Int
  db : Int
  al : Int
def Dl.ok (x : Dl) : Prop := (∀ d ∈ x.tf, d.ok) ∧ i64b x.ff ∧ i64b x.fb ∧ i64b x.db ∧ i64b x.al
def dlv (x : Dl) (L : Option Addr) (n d : Nat) : List Value := [.slice L n d, .int .i64 x.ff, .int .i64 x.fb, .int .i64 x.db, .int .i64 x.al]
def agreedX (x : Dl) : Tm := ⟨pk x.ff 100001, pk x.fb 10001, pk x.db 10001, pk x.al 2097152⟩
theorem agreed_ok (x : Dl) : (agreedX x).ok := by
  have h1 := pk_bound x.ff 100001 (by omega)
  have h2 := pk_bound x.fb 10001 (by omega)
  have h3 := pk_bound x.db 10001 (by omega)
  have h4 := pk_bound x.al 2097152 (by omega)
  unfold agreedX Tm.ok
  simp only
  omega
theorem opens_deal {H : Type} {enc : TypeId × Value → H} {W : World} : Open.Opens enc Try.prog W 50 (fun (x : Dl) cs => ∃ L d, cs = dlv x L x.tf.length d ∧ RdE 2 Debt.Ow.enc W L x.tf ∧ x.ok) := by
  refine Open.opens_struct Try.underlying50 fun cs hl hf => ?_
  rw [show Try.prog.cellsOf 50 = 5 by kernel_rfl] at hl
  match cs, hl with
  | [c0, c1, c2, c3, c4], _ =>
    obtain ⟨xs, A, c, e0, _, hr⟩ := Open.fld hf 0 rfl 0 1 rfl rfl (by kernel_rfl) (Open.opens_slice Try.underlying48 (by kernel_rfl : Try.prog.cellsOf 167 = 2) opens_ri)
    obtain ⟨x1, e1, f1⟩ := Open.fld hf 1 rfl 1 1 rfl rfl (by kernel_rfl) (Open.opens_int Try.underlying3)
    obtain ⟨x2, e2, f2⟩ := Open.fld hf 2 rfl 2 1 rfl rfl (by kernel_rfl) (Open.opens_int Try.underlying3)
    obtain ⟨x3, e3, f3⟩ := Open.fld hf 3 rfl 3 1 rfl rfl (by kernel_rfl) (Open.opens_int Try.underlying3)
    obtain ⟨x4, e4, f4⟩ := Open.fld hf 4 rfl 4 1 rfl rfl (by kernel_rfl) (Open.opens_int Try.underlying3)
    obtain ⟨h1, h2⟩ := hr.toE'
    simp at e0 e1 e2 e3 e4
    subst e0 e1 e2 e3 e4
    exact ⟨⟨xs, x1, x2, x3, x4⟩, A, c, rfl, h1, h2, i64_bound f1, i64_bound f2, i64_bound f3, i64_bound f4⟩
theorem heap5 {w : World} {R g : Nat} (h : g ≠ R) (v0 v1 v2 v3 v4 : Value) : (((((w.setCell ⟨R, 0, none⟩ v0).setCell ⟨R, 1, none⟩ v1).setCell ⟨R, 2, none⟩ v2).setCell ⟨R, 3, none⟩ v3).setCell ⟨R, 4, none⟩ v4).heap[g]? = w.heap[g]? := by
  rw [heap_setCell_other _ _ _ _ h, heap_setCell_other _ _ _ _ h, heap_setCell_other _ _ _ _ h, heap_setCell_other _ _ _ _ h, heap_setCell_other _ _ _ _ h]
set_option maxHeartbeats 4000000 in
theorem agreed_any (x : Dl) (L : Option Addr) (d : Nat) (w : World) (hl : RdE 2 Debt.Ow.enc w L x.tf) (hx : x.ok) :
    Calls Try.prog 16 #[.agg #[.slice L x.tf.length d, .int .i64 x.ff, .int .i64 x.fb, .int .i64 x.db, .int .i64 x.al]] w fun e w' => ∃ B q, e = .returned (.agg #[.slice B (steppedL x.tf).length q, .int .i64 (agreedX x).fix, .int .i64 (agreedX x).bp, .int .i64 (agreedX x).dbp, .int .i64 (agreedX x).al]) ∧ RdE 2 Stp.enc w' B (steppedL x.tf) ∧ Below w.heap.size w w' := by
  obtain ⟨hk, ⟨x0, x1⟩, ⟨x2, x3⟩, ⟨x4, x5⟩, x6, x7⟩ := hx
  have HL := Lib.hid hl
  have HS := Lib.hid (fun (W : World) (hW : RdE 2 Debt.Ow.enc W L x.tf) => stepped_own x.tf L d W hW hk)
  obtain ⟨tf, ff, fb, db, al⟩ := x
  unfold agreedX
  simp only at *
  clear hl hk
  generalize steppedL tf = ts at *
  generalize tf.length = tl at *
  have nz1 : w.heap.size ≠ w.heap.size + 1 := by omega
  have nz2 : w.heap.size + 1 ≠ w.heap.size := by omega
  go_enter Try.func16, Try.ntmps16
  go_wp2_with (fail)
  go_cut [] (fun wx => ∃ B q, Cs wx (w.heap.size + 1) [.slice B ts.length q, .int .i64 (pk ff 100001), .int .i64 (pk fb 10001), .int .i64 (pk db 10001), .int .i64 (pk al 2097152)] ∧ RdE 2 Stp.enc wx B ts ∧ Below w.heap.size w wx)
  case first =>
    go_region_held3 (fun w' => w'.cell? ⟨w.heap.size, 0, none⟩ = some (.slice L tl d) ∧ w'.cell? ⟨w.heap.size, 1, none⟩ = some (.int .i64 ff) ∧ w'.cell? ⟨w.heap.size, 2, none⟩ = some (.int .i64 fb) ∧ w'.cell? ⟨w.heap.size, 3, none⟩ = some (.int .i64 db) ∧ w'.cell? ⟨w.heap.size, 4, none⟩ = some (.int .i64 al)) (go_keep) (first | (go_at_call 10; refine (picked_any _ _ _ (by omega) (by omega) (by omega)).mono ?_; rintro e w' ⟨rfl, rfl⟩) | (go_at_call 35; refine (HS.out _ (HL.out.below (by repeat (first | with_reducible exact Below.refl _ _ | with_reducible refine Base.blw_alloc ?_ _ | with_reducible refine Below.drew ?_)))).mono ?_; rintro e w1 ⟨B, q, rfl, hr, had, hb⟩; have HAD := Lib.hid (show ∀ ad, B = some ad → ad.block ≠ w.heap.size + 1 from fun ad e => (by have := had ad e; simp at this; omega)); have HBX : Hid (Below w.heap.size w w1) := Lib.hid (below_then' (by repeat (first | with_reducible exact Below.refl _ _ | with_reducible refine Base.blw_alloc ?_ _ | with_reducible refine Below.drew ?_)) hb); have CR2 := Lib.hid ((show Cs _ w.heap.size [.slice L tl d, .int .i64 ff, .int .i64 fb, .int .i64 db, .int .i64 al] from (by (repeat (first | (with_reducible refine Cs.new ?_; focus (first | rfl | (simp; done) | omega)) | with_reducible refine Cs.alloc ?_ _ | with_reducible refine Cs.drew ?_ | with_reducible refine Cs.drewN ?_ _ | (with_reducible refine Cs.other ?_ ?_ _; focus (first | omega | (simp; omega))) | with_reducible apply Cs.put)) <;> first | rfl | (simp; done))).after hb); have q0 := (CR2.out.at 0 rfl).1; have q1 := (CR2.out.at 1 rfl).1; have q2 := (CR2.out.at 2 rfl).1; have q3 := (CR2.out.at 3 rfl).1; have q4 := (CR2.out.at 4 rfl).1; have CZ2 := Lib.hid ((show Cs _ (w.heap.size + 1) [.slice none 0 0, .int .i64 0, .int .i64 0, .int .i64 0, .int .i64 0] from (by (repeat (first | (with_reducible refine Cs.new ?_; focus (first | rfl | (simp; done) | omega)) | with_reducible refine Cs.alloc ?_ _ | with_reducible refine Cs.drew ?_ | with_reducible refine Cs.drewN ?_ _ | (with_reducible refine Cs.other ?_ ?_ _; focus (first | omega | (simp; omega))) | with_reducible apply Cs.put)) <;> first | rfl | (simp; done))).after hb); have z0 := (CZ2.out.at 0 rfl).1; have y0 := (CZ2.out.at 0 rfl).2; have z1 := (CZ2.out.at 1 rfl).1; have y1 := (CZ2.out.at 1 rfl).2; have z2 := (CZ2.out.at 2 rfl).1; have y2 := (CZ2.out.at 2 rfl).2; have z3 := (CZ2.out.at 3 rfl).1; have y3 := (CZ2.out.at 3 rfl).2; have z4 := (CZ2.out.at 4 rfl).1; have y4 := (CZ2.out.at 4 rfl).2; have lz := CZ2.out.1; have HRX := Lib.hid hr; clear hb hr))
    all_goals go_wp2_with fail
    all_goals go_meet
    all_goals
      refine ⟨B, q, Cs.put (i := 4) (Cs.put (i := 3) (Cs.put (i := 2) (Cs.put (i := 1) (Cs.put (i := 0) CZ2.out (by simp) rfl) (by simp) rfl) (by simp) rfl) (by simp) rfl) (by simp) rfl, RdE.heap HRX.out (fun ad e => heap5 (HAD.out ad e) _ _ _ _ _), ?_⟩
      exact ((((HBX.out.setCell (p := ⟨w.heap.size + 1, 0, none⟩) (show w.heap.size ≤ w.heap.size + 1 by omega) _).setCell (p := ⟨w.heap.size + 1, 1, none⟩) (show w.heap.size ≤ w.heap.size + 1 by omega) _).setCell (p := ⟨w.heap.size + 1, 2, none⟩) (show w.heap.size ≤ w.heap.size + 1 by omega) _).setCell (p := ⟨w.heap.size + 1, 3, none⟩) (show w.heap.size ≤ w.heap.size + 1 by omega) _).setCell (p := ⟨w.heap.size + 1, 4, none⟩) (show w.heap.size ≤ w.heap.size + 1 by omega) _
  case rest =>
    obtain ⟨B, q, hc, hr, hb⟩ := hcut
    have z0 := (hc.at 0 rfl).1
    have z1 := (hc.at 1 rfl).1
    have z2 := (hc.at 2 rfl).1
    have z3 := (hc.at 3 rfl).1
    have z4 := (hc.at 4 rfl).1
    have HR := Lib.hid hr
    have HB := Lib.hid hb
    clear hc hr hb
    go_wp2_with fail
    refine bodyPost_ret (v := .agg #[.slice B ts.length q, .int .i64 (pk ff 100001), .int .i64 (pk fb 10001), .int .i64 (pk db 10001), .int .i64 (pk al 2097152)]) (by simp [results, Try.results16, go_sem, z0, z1, z2, z3, z4]) rfl ⟨B, q, rfl, HR.out, HB.out⟩
end Go.Proofs.Ytfdgjaahmbjnpaa.Acc
