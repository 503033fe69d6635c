/- Contracts of the laws' helpers gone, sameAccount; a raw account opened. -/
import Derived.Test.YtfdgjaahmbjnpaaAcc3
namespace Go.Proofs.Ytfdgjaahmbjnpaa.Acc
open Go.RowKit Go.Proofs.Ytfdgjaahmbjnpaa.Base Go.Proofs.Ytfdgjaahmbjnpaa.Tar
set_option linter.unusedVariables false
set_option linter.unusedSimpArgs false
set_option maxRecDepth 20000
/-- A raw account. -/
structure Gn where
  me : Int
  rev : Int
  nx : Int
  mo : Int
  bo : Int
  fr : Int
  ds : List Debt.Ow
def i64b (n : Int) : Prop := -9223372036854775808 ≤ n ∧ n ≤ 9223372036854775807
def Gn.ok (x : Gn) : Prop := i64b x.me ∧ i64b x.rev ∧ i64b x.nx ∧ i64b x.mo ∧ i64b x.bo ∧ i64b x.fr ∧ ∀ d ∈ x.ds, d.ok
def goneA (x : Gn) : Ac := ⟨pk x.me 50, pk x.rev 16, 1 + pk x.nx 1048574, pk x.mo 2399, pk x.bo 10000001, pk x.fr (pk x.mo 2399 + 2) - 1⟩
theorem gone_ok (x : Gn) : (goneA x).ok := by
  have h1 := pk_bound x.me 50 (by omega)
  have h2 := pk_bound x.rev 16 (by omega)
  have h3 := pk_bound x.nx 1048574 (by omega)
  have h4 := pk_bound x.mo 2399 (by omega)
  have h5 := pk_bound x.bo 10000001 (by omega)
  have h6 := pk_bound x.fr (pk x.mo 2399 + 2) (by omega)
  unfold goneA Ac.ok
  simp only
  omega
theorem odb_set {B0 : Nat} {w : World} {A : Option Addr} {c : Nat} {xs : List Debt.Db} (h : Debt.OwDb B0 w A c xs) {p : Nat} (hne : ∀ g, (Value.slice A xs.length c).ownBlock = some g → g ≠ p) (j : Nat) (v : Value) : Debt.OwDb B0 (w.setCell ⟨p, j, none⟩ v) A c xs :=
  World.ownsRow.kept (row := some p) h ⟨rfl, rfl, rfl, by rw [World.size_setCell]; exact Nat.le_refl _, fun k _ hk => Below.heap_setCell _ _ _ k (fun e => hk (by rw [e]))⟩ (by
    cases hv : (Value.slice A xs.length c).ownBlock with
    | none => simp
    | some g => exact .inr (fun e => hne g hv (by cases e; rfl)))
theorem odb_far {B0 : Nat} {w : World} {A : Option Addr} {c : Nat} {xs : List Debt.Db} (h : Debt.OwDb B0 w A c xs) {p : Nat} (hp : p < B0 ∨ w.heap.size ≤ p) : ∀ g, (Value.slice A xs.length c).ownBlock = some g → g ≠ p := by
  intro g hg
  have := World.ownsRow.lt h g hg
  omega
theorem odb_alloc {B0 : Nat} {w : World} {A : Option Addr} {c : Nat} {xs : List Debt.Db} (h : Debt.OwDb B0 w A c xs) (o : Obj) : Debt.OwDb B0 (w.alloc o) A c xs := World.ownsRow.alloc h o
theorem odb_set7 {B0 B1 : Nat} {w : World} {A : Option Addr} {c : Nat} {xs : List Debt.Db} (h : Debt.OwDb B1 w A c xs) {R : Nat} (hR : R < B1) (hB : B0 ≤ B1) (v0 v1 v2 v3 v4 v5 v6 : Value) : Debt.OwDb B0 (((((((w.setCell ⟨R, 0, none⟩ v0).setCell ⟨R, 1, none⟩ v1).setCell ⟨R, 2, none⟩ v2).setCell ⟨R, 3, none⟩ v3).setCell ⟨R, 4, none⟩ v4).setCell ⟨R, 5, none⟩ v5).setCell ⟨R, 6, none⟩ v6) A c xs := own_less (own_set7 h R hR v0 v1 v2 v3 v4 v5 v6) hB
theorem cs_set7 {w : World} {b : Nat} {vs : List Value} (h : Cs w b vs) {R : Nat} (hR : R ≠ b) (v0 v1 v2 v3 v4 v5 v6 : Value) : Cs (((((((w.setCell ⟨R, 0, none⟩ v0).setCell ⟨R, 1, none⟩ v1).setCell ⟨R, 2, none⟩ v2).setCell ⟨R, 3, none⟩ v3).setCell ⟨R, 4, none⟩ v4).setCell ⟨R, 5, none⟩ v5).setCell ⟨R, 6, none⟩ v6) b vs :=
  Cs.other (a := ⟨R, 6, none⟩) hR (Cs.other (a := ⟨R, 5, none⟩) hR (Cs.other (a := ⟨R, 4, none⟩) hR (Cs.other (a := ⟨R, 3, none⟩) hR (Cs.other (a := ⟨R, 2, none⟩) hR (Cs.other (a := ⟨R, 1, none⟩) hR (Cs.other (a := ⟨R, 0, none⟩) hR (h) _) _) _) _) _) _) _
theorem cs_put7 {w : World} {R : Nat} {u0 u1 u2 u3 u4 u5 u6 v0 v1 v2 v3 v4 v5 v6 : Value} (h : Cs w R [u0, u1, u2, u3, u4, u5, u6]) : Cs (((((((w.setCell ⟨R, 0, none⟩ v0).setCell ⟨R, 1, none⟩ v1).setCell ⟨R, 2, none⟩ v2).setCell ⟨R, 3, none⟩ v3).setCell ⟨R, 4, none⟩ v4).setCell ⟨R, 5, none⟩ v5).setCell ⟨R, 6, none⟩ v6) R [v0, v1, v2, v3, v4, v5, v6] :=
  Cs.put (i := 6) (Cs.put (i := 5) (Cs.put (i := 4) (Cs.put (i := 3) (Cs.put (i := 2) (Cs.put (i := 1) (Cs.put (i := 0) (h) (by simp) rfl) (by simp) rfl) (by simp) rfl) (by simp) rfl) (by simp) rfl) (by simp) rfl) (by simp) rfl
def gnv (x : Gn) (L : Option Addr) (n d : Nat) : List Value := [.int .i64 x.me, .int .i64 x.rev, .int .i64 x.nx, .int .i64 x.mo, .int .i64 x.bo, .int .i64 x.fr, .slice L n d]
set_option maxHeartbeats 4000000 in
theorem gone_any (x : Gn) (L : Option Addr) (d : Nat) (w : World) (hl : RdE 2 Debt.Ow.enc w L x.ds) (hx : x.ok) :
    Calls Try.prog 15 #[.agg #[.int .i64 x.me, .int .i64 x.rev, .int .i64 x.nx, .int .i64 x.mo, .int .i64 x.bo, .int .i64 x.fr, .slice L x.ds.length d]] w fun e w' => ∃ B q, e = .returned (.agg #[.int .i64 (goneA x).me, .int .i64 (goneA x).rev, .int .i64 (goneA x).nx, .int .i64 (goneA x).mo, .int .i64 (goneA x).bo, .int .i64 (goneA x).fr, .slice B (Debt.owingL x.ds 1000000000).length q]) ∧ Debt.OwDb w.heap.size w' B q (Debt.owingL x.ds 1000000000) ∧ Below w.heap.size w w' := by
  obtain ⟨⟨x0, x1⟩, ⟨x2, x3⟩, ⟨x4, x5⟩, ⟨x6, x7⟩, ⟨x8, x9⟩, ⟨x10, x11⟩, hk⟩ := hx
  have HL := Lib.hid hl
  have HK := Lib.hid hk
  clear hl hk
  obtain ⟨me, rev, nx, mo, bo, fr, ds⟩ := x
  unfold goneA
  simp only at *
  have HO := Lib.hid (fun (W : World) (hW : RdE 2 Debt.Ow.enc W L ds) => Debt.owing_any ds 1000000000 L d W hW HK.out (by omega) (by omega))
  have hb4 := pk_bound mo 2399 (by omega)
  have HP : Hid (∀ (n m : Int) (w : World), i64b n → 0 < m → Calls Try.prog 10 #[.int .i64 n, .int .i64 m] w fun e w' => e = .returned (.int .i64 (pk n m)) ∧ w = w') := Lib.hid (fun n m w h hm => picked_any n m w h.1 h.2 hm)
  generalize Debt.owingL ds 1000000000 = os at *
  have hb3 := pk_bound nx 1048574 (by omega)
  have hwm : IntKind.i64.wrap (1 + pk nx 1048574) = 1 + pk nx 1048574 := Base.wrap64 _ (by omega) (by omega)
  go_enter Try.func15, Try.ntmps15
  have nm1 : w.heap.size + 1 + 1 ≠ w.heap.size := by omega
  have nm2 : w.heap.size ≠ w.heap.size + 1 + 1 := by omega
  go_upto_region 1 with fail
  go_cut [3] (fun v wx => ∃ p B q, v = .pointer (some ⟨p, 0, none⟩) ∧ w.heap.size + 2 ≤ p ∧ Cs wx p [.int .i64 (pk me 50), .int .i64 (pk rev 16), .int .i64 (1 + pk nx 1048574), .int .i64 (pk mo 2399), .int .i64 (pk bo 10000001), .int .i64 0, .slice B os.length q] ∧ Debt.OwDb (w.heap.size + 2) wx B q os ∧ (∀ g, (Value.slice B os.length q).ownBlock = some g → g ≠ p) ∧ Below w.heap.size w wx ∧ Cs wx w.heap.size [.int .i64 me, .int .i64 rev, .int .i64 nx, .int .i64 mo, .int .i64 bo, .int .i64 fr, .slice L ds.length d] ∧ Cs wx (w.heap.size + 1) [.int .i64 0, .int .i64 0, .int .i64 0, .int .i64 0, .int .i64 0, .int .i64 0, .slice none 0 0])
  case first =>
    go_region_held3 (fun w' => w'.cell? ⟨w.heap.size, 0, none⟩ = some (.int .i64 me) ∧ w'.cell? ⟨w.heap.size, 1, none⟩ = some (.int .i64 rev) ∧ w'.cell? ⟨w.heap.size, 2, none⟩ = some (.int .i64 nx) ∧ w'.cell? ⟨w.heap.size, 3, none⟩ = some (.int .i64 mo) ∧ w'.cell? ⟨w.heap.size, 4, none⟩ = some (.int .i64 bo) ∧ w'.cell? ⟨w.heap.size, 5, none⟩ = some (.int .i64 fr) ∧ w'.cell? ⟨w.heap.size, 6, none⟩ = some (.slice L ds.length d)) (go_keep) (first | (go_at_call 10; refine (picked_any _ _ _ (by omega) (by omega) (by omega)).mono ?_; rintro e w' ⟨rfl, rfl⟩) | (go_at_call 34; refine (HO.out _ (HL.out.below (by repeat (first | with_reducible exact Below.refl _ _ | with_reducible refine Base.blw_alloc ?_ _ | with_reducible refine Below.drew ?_)))).mono ?_; rintro e w1 ⟨B, q, rfl, ho, hb⟩; have CR2 := Lib.hid ((show Cs _ w.heap.size [.int .i64 me, .int .i64 rev, .int .i64 nx, .int .i64 mo, .int .i64 bo, .int .i64 fr, .slice L ds.length d] from (by (repeat (first | (with_reducible refine Cs.new ?_; focus (first | rfl | (simp; done) | omega)) | with_reducible refine Cs.alloc ?_ _ | with_reducible refine Cs.drew ?_ | with_reducible refine Cs.drewN ?_ _ | (with_reducible refine Cs.other ?_ ?_ _; focus (first | omega | (simp; omega))) | with_reducible apply Cs.put)) <;> first | rfl | (simp; done))).after hb); have q0 := (CR2.out.at 0 rfl).1; have q1 := (CR2.out.at 1 rfl).1; have q2 := (CR2.out.at 2 rfl).1; have q3 := (CR2.out.at 3 rfl).1; have q4 := (CR2.out.at 4 rfl).1; have q5 := (CR2.out.at 5 rfl).1; have q6 := (CR2.out.at 6 rfl).1; have HBX : Hid (Below w.heap.size w w1) := Lib.hid (below_then' (by repeat (first | with_reducible exact Below.refl _ _ | with_reducible refine Base.blw_alloc ?_ _ | with_reducible refine Below.drew ?_)) hb); have HY := Lib.hid hb; have HOX := Lib.hid (show Debt.OwDb (w.heap.size + 2) w1 B q os from own_less ho (by first | (simp; done) | (simp; omega))); have CY2 := Lib.hid ((show Cs _ (w.heap.size + 1) [.int .i64 0, .int .i64 0, .int .i64 0, .int .i64 0, .int .i64 0, .int .i64 0, .slice none 0 0] from (by (repeat (first | (with_reducible refine Cs.new ?_; focus (first | rfl | (simp; done) | omega)) | with_reducible refine Cs.alloc ?_ _ | with_reducible refine Cs.drew ?_ | with_reducible refine Cs.drewN ?_ _ | (with_reducible refine Cs.other ?_ ?_ _; focus (first | omega | (simp; omega))) | with_reducible apply Cs.put)) <;> first | rfl | (simp; done))).after hb); have hzx := HY.out.size; (try simp only [World.size_alloc, World.size_drew] at hzx); (first | (refine (fun (CZ2 : Hid (Cs w1 (w.heap.size + 1 + 1) [.int .i64 0, .int .i64 0, .int .i64 0, .int .i64 0, .int .i64 0, .int .i64 0, .slice none 0 0])) => ?_) (Lib.hid (Cs.after ?_ hb)); rotate_left; (focus ((repeat (first | (with_reducible refine Cs.new ?_; focus (first | rfl | (simp; done) | omega)) | with_reducible refine Cs.alloc ?_ _ | with_reducible refine Cs.drew ?_ | with_reducible refine Cs.drewN ?_ _ | (with_reducible refine Cs.other ?_ ?_ _; focus (first | omega | (simp; omega))) | with_reducible apply Cs.put)) <;> first | rfl | (simp; done))); have z0 := (CZ2.out.at 0 rfl).1; have y0 := (CZ2.out.at 0 rfl).2; have z1 := (CZ2.out.at 1 rfl).1; have y1 := (CZ2.out.at 1 rfl).2; have z2 := (CZ2.out.at 2 rfl).1; have y2 := (CZ2.out.at 2 rfl).2; have z3 := (CZ2.out.at 3 rfl).1; have y3 := (CZ2.out.at 3 rfl).2; have z4 := (CZ2.out.at 4 rfl).1; have y4 := (CZ2.out.at 4 rfl).2; have z5 := (CZ2.out.at 5 rfl).1; have y5 := (CZ2.out.at 5 rfl).2; have z6 := (CZ2.out.at 6 rfl).1; have y6 := (CZ2.out.at 6 rfl).2; have lz := CZ2.out.1; have HOZ := Lib.hid (show Debt.OwDb (w.heap.size + 3) w1 B q os from own_less ho (by first | (simp; done) | (simp; omega)))) | skip); clear hb ho))
    all_goals go_wp2_with fail
    all_goals go_meet
    all_goals first
      | (with_reducible refine ⟨w1.heap.size, B, q, rfl, ?_, ?_, ?_, ?_, ?_, ?_, ?_⟩
         · omega
         · with_reducible exact Cs.new rfl
         · with_reducible exact odb_alloc HOX.out _
         · exact odb_far HOX.out (.inr (Nat.le_refl _))
         · with_reducible exact blw_alloc HBX.out _
         · with_reducible exact CR2.out.alloc _
         · with_reducible exact CY2.out.alloc _)
      | (with_reducible refine ⟨w.heap.size + 1 + 1, B, q, rfl, ?_, ?_, ?_, ?_, ?_, ?_, ?_⟩
         · omega
         · with_reducible exact cs_put7 CZ2.out
         · with_reducible exact odb_set7 HOZ.out (by omega) (by omega) _ _ _ _ _ _ _
         · exact odb_far HOZ.out (.inl (by omega))
         · with_reducible exact below_set7 HBX.out _ (by omega) _ _ _ _ _ _ _
         · with_reducible exact cs_set7 CR2.out (by omega) _ _ _ _ _ _ _
         · with_reducible exact cs_set7 CY2.out (by omega) _ _ _ _ _ _ _)
  case rest =>
    obtain ⟨p, B, q, rfl, hp, hcp, ho, hne, hb, hcr, hcy⟩ := hcut
    have HOB0 := Lib.hid (odb_set ho hne 5 (.int .i64 (pk fr (pk mo 2399 + 2) - 1)))
    clear hne
    have HCP := Lib.hid hcp
    have HOB := Lib.hid ho
    have HBW := Lib.hid hb
    have r5 := (hcr.at 5 rfl).1
    have p3 := (hcp.at 3 rfl).1
    have p5 := (hcp.at 5 rfl).1
    have f5 := (hcp.at 5 rfl).2
    have lp := hcp.1
    have hp0 : p ≠ w.heap.size := by omega
    have hp1 : w.heap.size ≠ p := by omega
    have hp2 : p ≠ w.heap.size + 1 := by omega
    have hp3 : w.heap.size + 1 ≠ p := by omega
    have HCY := Lib.hid hcy
    have hw5 : IntKind.i64.wrap (pk mo 2399 + 2) = pk mo 2399 + 2 := Base.wrap64 _ (by omega) (by omega)
    have hb6 := pk_bound fr (pk mo 2399 + 2) (by omega)
    clear hcp ho hb hcr hcy
    go_wp2_with (fail)
    go_at_call 10
    refine (picked_any _ _ _ (by omega) (by omega) (by omega)).mono ?_
    rintro e w' ⟨rfl, rfl⟩
    obtain ⟨z, hz⟩ : ∃ z, z = pk fr (pk mo 2399 + 2) - 1 := ⟨_, rfl⟩
    have CP2 := Lib.hid (show Cs (wc.setCell ⟨p, 5, none⟩ (.int .i64 (pk fr (pk mo 2399 + 2) - 1))) p [.int .i64 (pk me 50), .int .i64 (pk rev 16), .int .i64 (1 + pk nx 1048574), .int .i64 (pk mo 2399), .int .i64 (pk bo 10000001), .int .i64 (pk fr (pk mo 2399 + 2) - 1), .slice B os.length q] from Cs.put (i := 5) HCP.out (by simp) rfl)
    have CY3 := Lib.hid (Cs.other (a := ⟨p, 5, none⟩) hp2 HCY.out (.int .i64 (pk fr (pk mo 2399 + 2) - 1)))
    clear hz
    have a0 := (CP2.out.at 0 rfl).1
    have b0 := (CY3.out.at 0 rfl).1
    have c0 := (CY3.out.at 0 rfl).2
    have a1 := (CP2.out.at 1 rfl).1
    have b1 := (CY3.out.at 1 rfl).1
    have c1 := (CY3.out.at 1 rfl).2
    have a2 := (CP2.out.at 2 rfl).1
    have b2 := (CY3.out.at 2 rfl).1
    have c2 := (CY3.out.at 2 rfl).2
    have a3 := (CP2.out.at 3 rfl).1
    have b3 := (CY3.out.at 3 rfl).1
    have c3 := (CY3.out.at 3 rfl).2
    have a4 := (CP2.out.at 4 rfl).1
    have b4 := (CY3.out.at 4 rfl).1
    have c4 := (CY3.out.at 4 rfl).2
    have a5 := (CP2.out.at 5 rfl).1
    have b5 := (CY3.out.at 5 rfl).1
    have c5 := (CY3.out.at 5 rfl).2
    have a6 := (CP2.out.at 6 rfl).1
    have b6 := (CY3.out.at 6 rfl).1
    have c6 := (CY3.out.at 6 rfl).2
    clear r5
    go_wp2_with (fail)
    refine bodyPost_ret (v := .agg #[.int .i64 (pk me 50), .int .i64 (pk rev 16), .int .i64 (1 + pk nx 1048574), .int .i64 (pk mo 2399), .int .i64 (pk bo 10000001), .int .i64 (pk fr (pk mo 2399 + 2) - 1), .slice B os.length q]) (by simp [results, Try.results15, go_sem, b0, c0, b1, c1, b2, c2, b3, c3, b4, c4, b5, c5, b6, c6]) rfl ⟨B, q, rfl, own_less (own_set7 HOB0.out _ (by omega) _ _ _ _ _ _ _) (by omega), below_set7 (HBW.out.setCell (p := ⟨p, 5, none⟩) (show w.heap.size ≤ p by omega) _) _ (by omega) _ _ _ _ _ _ _⟩
















end Go.Proofs.Ytfdgjaahmbjnpaa.Acc
