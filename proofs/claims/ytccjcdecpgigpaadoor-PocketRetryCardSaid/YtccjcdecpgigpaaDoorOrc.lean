/- Contracts of package oracle: what was tagged. -/
import Derived.Test.YtccjcdecpgigpaaDoorBase
import Derived.Test.YtccjcdecpgigpaaDoorApp
import Derived.Maps.OwnSet
import Derived.Maps.OwnOps
import Derived.Maps.Views
import Derived.DeepKeys4
import Derived.Laws.OwnMore
import Derived.Deep.RegionHeld3
namespace Go.Proofs.YtccjcdecpgigpaaDoor.Orc
open Go.RowKit Go.Proofs.YtccjcdecpgigpaaDoor.Base Go.Maps
set_option linter.unusedVariables false
set_option linter.unusedSimpArgs false
set_option maxRecDepth 20000

/-! ### pairs -/
structure Pr where
  m : Int
  r : Int
  b : Int
  t : Int
def i64 (n : Int) : Prop := -9223372036854775808 ≤ n ∧ n ≤ 9223372036854775807
def Pr.ok (p : Pr) : Prop := (i64 p.m ∧ i64 p.r) ∧ i64 p.b ∧ i64 p.t
def Pr.enc (p : Pr) : List Value := [.int .i64 p.m, .int .i64 p.r, .int .i64 p.b, .int .i64 p.t]
theorem info_pr : (Tryd.prog.info? 211).map (fun i => (i.zero, i.size, i.bytes)) = some (some (.agg #[.int .i64 0, .int .i64 0, .int .i64 0, .int .i64 0]), 4, 32) := by kernel_rfl
def wok (m r b : Int) : Bool := decide ((0 ≤ m ∧ m < 50) ∧ (0 ≤ r ∧ r ≤ 15) ∧ 0 ≤ b ∧ b ≤ 8796093022207)
def same (p : Pr) (m r b : Int) : Bool := decide (p.m = m ∧ p.r = r ∧ p.b = b)
def had (ps : List Pr) (m r b : Int) : Bool := ps.any fun p => same p m r b
def okP (p : Pr) : Bool := wok p.m p.r p.b && decide (0 ≤ p.t ∧ p.t ≤ 65535)
/-- Each pair within bounds, no two alike. -/
def goodAt (ps : List Pr) (i : Nat) (p : Pr) : Bool := okP p && !had (ps.take i) p.m p.r p.b
def Good (ps : List Pr) : Prop := ps.length ≤ 500 ∧ ∀ i p, ps[i]? = some p → goodAt ps i p = true

/-! ### the map's keys -/
theorem laidOut : laidOutB Tryd.prog = true := by kernel_rfl
theorem law : Keyed Tryd.prog 207 := Keyed.of_law (deep_law_laid laidOut (m := 2) (by omega) (of_decide_eq_true (by kernel_rfl)) (by kernel_rfl) (by rw [Tryd.underlying207]))
theorem keyType : Tryd.prog.keyType 207 = true := by kernel_rfl
theorem cells_what : Tryd.prog.cellsOf 207 = 3 := by kernel_rfl
theorem cells_int : Tryd.prog.cellsOf 3 = 1 := by kernel_rfl
def kl (m r b : Int) : Lit := .string (keyBytes [.int .i64 m, .int .i64 r, .int .i64 b])
theorem wf_of {n : Int} (h : i64 n) : (Lit.int .i64 n).wf = true := by
  unfold i64 at h
  simp [Lit.wf, IntKind.min, IntKind.max, IntKind.bits, IntKind.signed]
  omega
theorem keyLits_int (d : Nat) (n : Int) (h : i64 n) : Tryd.prog.keyLits (d + 1) 3 [.int .i64 n] = some [.int .i64 n] := by
  simp [Program.keyLits, Tryd.underlying3, wf_of h]
theorem hkey (m r b : Int) (h0 : i64 m) (h1 : i64 r) (h2 : i64 b) : keyOf Tryd.prog 207 (.agg #[.int .i64 m, .int .i64 r, .int .i64 b]) = some (kl m r b) := by
  obtain ⟨d, hd⟩ : ∃ d, Tryd.prog.types.size + 1 = d + 1 + 1 := ⟨Tryd.prog.types.size - 1, by
    have : (2 : Nat) ≤ Tryd.prog.types.size := of_decide_eq_true (by kernel_rfl)
    omega⟩
  unfold keyOf
  rw [Tryd.underlying207]
  simp only [keyType, hd]
  have hf : (Value.agg #[.int .i64 m, .int .i64 r, .int .i64 b]).formed Tryd.prog 207 = true := by
    simp [Value.formed, Tryd.underlying207, cells_what]
  rw [hf]
  simp [Program.keyLits, Tryd.underlying207, cells_what, Value.cells, cells_int, wf_of h0, wf_of h1, wf_of h2, kl]
theorem kl_inj {m r b m' r' b' : Int} (h0 : i64 m) (h1 : i64 r) (h2 : i64 b) (h0' : i64 m') (h1' : i64 r') (h2' : i64 b') (h : kl m r b = kl m' r' b') : m = m' ∧ r = r' ∧ b = b' := by
  have e := law.inj (hkey m r b h0 h1 h2) (by rw [h]; exact hkey m' r' b' h0' h1' h2')
  simpa using e
theorem isKey (m r b : Int) (h0 : i64 m) (h1 : i64 r) (h2 : i64 b) : WideAt.IsKeyLit (kl m r b) := law.key (hkey m r b h0 h1 h2)
def dOf (ps : List Pr) : DataW Unit := ps.foldl (fun D p => D.put (kl p.m p.r p.b) (.lit (.int .i64 p.t))) (.map [])
theorem dOf_snoc (ps : List Pr) (p : Pr) : dOf (ps ++ [p]) = (dOf ps).put (kl p.m p.r p.b) (.lit (.int .i64 p.t)) := by
  unfold dOf; rw [List.foldl_append]; rfl
theorem isMap_dOf (ps : List Pr) : IsMap (dOf ps) := by
  induction ps using snoc_ind with
  | h0 => exact isMap_empty
  | hs l c ih => rw [dOf_snoc]; exact ih.put _ _
theorem had_snoc (ps : List Pr) (p : Pr) (m r b : Int) : had (ps ++ [p]) m r b = (had ps m r b || same p m r b) := by
  unfold had; rw [List.any_append]; simp
theorem has_dOf (ps : List Pr) (hk : ∀ p ∈ ps, p.ok) (m r b : Int) (h0 : i64 m) (h1 : i64 r) (h2 : i64 b) : Maps.has (dOf ps) (kl m r b) = had ps m r b := by
  induction ps using snoc_ind with
  | h0 => rfl
  | hs l c ih =>
    have hc := hk c (by simp)
    have il := ih (fun p hp => hk p (by simp [hp]))
    rw [dOf_snoc, had_snoc]
    by_cases e : c.m = m ∧ c.r = r ∧ c.b = b
    · have hs : same c m r b = true := by unfold same; exact decide_eq_true e
      obtain ⟨rfl, rfl, rfl⟩ := e
      rw [has_put_same (isMap_dOf l) (isKey _ _ _ h0 h1 h2), hs]
      simp
    · have hs : same c m r b = false := by unfold same; exact decide_eq_false e
      rw [has_put_other (fun h => e ?_), il, hs]
      · simp
      · obtain ⟨a1, a2, a3⟩ := kl_inj h0 h1 h2 hc.1.1 hc.1.2 hc.2.1 h
        exact ⟨a1.symm, a2.symm, a3.symm⟩
def tagL (ps : List Pr) (m r b : Int) : Int := ps.foldl (fun t p => if same p m r b then p.t else t) 0
theorem tagL_snoc (ps : List Pr) (p : Pr) (m r b : Int) : tagL (ps ++ [p]) m r b = if same p m r b then p.t else tagL ps m r b := by
  unfold tagL; rw [List.foldl_append]; rfl
theorem at_dOf (ps : List Pr) (hk : ∀ p ∈ ps, p.ok) (m r b : Int) (h0 : i64 m) (h1 : i64 r) (h2 : i64 b) : (dOf ps).atKey (kl m r b) (.lit (.int .i64 0)) = .lit (.int .i64 (tagL ps m r b)) := by
  induction ps using snoc_ind with
  | h0 => rfl
  | hs l c ih =>
    have hc := hk c (by simp)
    have il := ih (fun p hp => hk p (by simp [hp]))
    rw [dOf_snoc, tagL_snoc]
    by_cases e : c.m = m ∧ c.r = r ∧ c.b = b
    · have hs : same c m r b = true := by unfold same; exact decide_eq_true e
      obtain ⟨rfl, rfl, rfl⟩ := e
      rw [atKey_put_same (isMap_dOf l) (isKey _ _ _ h0 h1 h2), if_pos hs]
    · have hs : same c m r b = false := by unfold same; exact decide_eq_false e
      rw [atKey_put_other (fun h => e ?_), il, if_neg (by rw [hs]; decide)]
      obtain ⟨a1, a2, a3⟩ := kl_inj h0 h1 h2 hc.1.1 hc.1.2 hc.2.1 h
      exact ⟨a1.symm, a2.symm, a3.symm⟩

/-! ### small walks -/
theorem at4 {α : Type} {enc : α → List Value} {w : World} {A : Option Addr} {xs : List α} (h : RdE 4 enc w A xs) (i : Nat) (hi : i < xs.length) (u v z y : Value) (hu : enc (xs[i]'hi) = [u, v, z, y]) :
    ∃ ad, A = some ad ∧ w.cell? (ad.add (i * 4)) = some u ∧ w.cell? ⟨(ad.add (i * 4)).block, (ad.add (i * 4)).off + 1, none⟩ = some v ∧ w.cell? ⟨(ad.add (i * 4)).block, (ad.add (i * 4)).off + 2, none⟩ = some z ∧ w.cell? ⟨(ad.add (i * 4)).block, (ad.add (i * 4)).off + 3, none⟩ = some y := by
  obtain ⟨ad, e, hc⟩ := h.2 (by intro hn; subst hn; simp at hi)
  refine ⟨ad, e, by simpa using hc i _ (List.getElem?_eq_getElem hi) 0 u (by rw [hu]; rfl), ?_, ?_, ?_⟩
  · rw [← add_field _ _ 1 (by omega)]
    exact hc i _ (List.getElem?_eq_getElem hi) 1 v (by rw [hu]; rfl)
  · rw [← add_field _ _ 2 (by omega)]
    exact hc i _ (List.getElem?_eq_getElem hi) 2 z (by rw [hu]; rfl)
  · rw [← add_field _ _ 3 (by omega)]
    exact hc i _ (List.getElem?_eq_getElem hi) 3 y (by rw [hu]; rfl)
theorem of_any (m r b t : Int) (w : World) : Calls Tryd.prog 144 #[.agg #[.int .i64 m, .int .i64 r, .int .i64 b, .int .i64 t]] w fun e w' => e = .returned (.agg #[.int .i64 m, .int .i64 r, .int .i64 b]) ∧ Below w.heap.size w w' := by
  go_enter Tryd.func144, Tryd.ntmps144
  go_wp2
  refine bodyPost_ret (v := .agg #[.int .i64 m, .int .i64 r, .int .i64 b]) (by simp [results, Tryd.results144, go_sem]) rfl ⟨rfl, ?_⟩
  repeat (first | exact blw_alloc (blw_alloc (Below.refl _ _) _) _ | refine Below.setCell ?_ (by first | exact Nat.le_refl _ | exact Nat.le_succ _) _)
theorem wmay_any (m r b : Int) (w : World) : Calls Tryd.prog 111 #[.agg #[.int .i64 m, .int .i64 r, .int .i64 b]] w fun e w' => e = .returned (.bool (wok m r b)) ∧ Below w.heap.size w w' := by
  by_cases h : (0 ≤ m ∧ m < 50) ∧ (0 ≤ r ∧ r ≤ 15) ∧ 0 ≤ b ∧ b ≤ 8796093022207
  · have HR := Lib.hid (show wok m r b = true from decide_eq_true h)
    obtain ⟨⟨a0, a1⟩, ⟨b0, b1⟩, c0, c1⟩ := h
    have e : decide (b ≤ 8796093022207) = true := decide_eq_true c1
    go_enter Tryd.func111, Tryd.ntmps111
    go_wp2
    go_ret
    exact ⟨by rw [HR.out]; first | rfl | exact ret_bool e, blw_alloc (Below.refl _ _) _⟩
  · have HR := Lib.hid (show wok m r b = false from decide_eq_false h)
    have HH := Lib.hid h
    clear h
    go_enter Tryd.func111, Tryd.ntmps111
    go_wp2
    all_goals
      go_ret
      exact ⟨by rw [HR.out]; first | rfl | exact ret_bool (decide_eq_false (by have := HH.out; omega)), blw_alloc (Below.refl _ _) _⟩
theorem map_after {B n : Nat} {D : DataW Unit} {w w' : World} (h : w.ownsMap Tryd.prog 207 (plainElem Tryd.prog 3) B n D) (hb : Below w.heap.size w w') : w'.ownsMap Tryd.prog 207 (plainElem Tryd.prog 3) B n D :=
  h.kept (row := none) ⟨hb.os, hb.tape, hb.output, hb.size, fun j hj _ => hb.block j hj⟩ (by simp)
theorem zeroE (w : World) : (zeroValue 3).run Tryd.prog w = .ok (.int .i64 0) w := by kernel_rfl
theorem goodAt_iff (ps : List Pr) (k : Nat) (hk : k < ps.length) (h : ∀ i p, i < k → ps[i]? = some p → goodAt ps i p = true) (hp : goodAt ps k ps[k] = true) : ∀ i p, i < k + 1 → ps[i]? = some p → goodAt ps i p = true := by
  intro i p hi hx
  by_cases e : i = k
  · subst e
    rw [List.getElem?_eq_getElem hk] at hx
    cases hx
    exact hp
  · exact h i p (by omega) hx
/-- What is known of an oracle: the map of its tags; or that it may not be. -/
def KnownPost (ps : List Pr) (w : World) (e : Ending) (w' : World) : Prop :=
  Below w.heap.size w w' ∧ ((Good ps ∧ ∃ B, e = .returned (.tuple #[.map (some B), .bool true]) ∧ w'.ownsMap Tryd.prog 207 (plainElem Tryd.prog 3) B ps.length (dOf ps)) ∨ (¬ Good ps ∧ e = .returned (.tuple #[.map none, .bool false])))
set_option maxHeartbeats 4000000 in
theorem known_any (ps : List Pr) (A : Option Addr) (c : Nat) (w : World) (hr : RdE 4 Pr.enc w A ps) (hk : ∀ p ∈ ps, p.ok) :
    Calls Tryd.prog 110 #[.agg #[.slice A ps.length c]] w (KnownPost ps w) := by
  have hmx := hr.1
  by_cases h500 : ps.length ≤ 500
  · have HR := Lib.hid hr
    have HK := Lib.hid hk
    clear hr hk
    have hmm := @run_makeMap Tryd.prog
    go_enter Tryd.func110, Tryd.ntmps110
    go_wp2
    have HM0 := Lib.hid (World.ownsMap_made (H := Unit) (w.alloc (.cells #[.slice A ps.length c] 58)) Tryd.prog 207 (plainElem Tryd.prog 3))
    clear hmm
    go_loopw [18] (fun i wr => ∃ k : Nat, k ≤ ps.length ∧ i = .int .i64 k ∧ (∀ i p, i < k → ps[i]? = some p → goodAt ps i p = true) ∧ wr.ownsMap Tryd.prog 207 (plainElem Tryd.prog 3) (w.heap.size + 1) k (dOf (ps.take k)) ∧ Below w.heap.size w wr ∧ w.heap.size + 1 < wr.heap.size) (fun i _ => ps.length - (intOf i).toNat)
    case atStart =>
      refine ⟨0, by omega, rfl, by intro i p h; omega, ?_, blw_alloc (blw_alloc (Below.refl _ _) _) _, by simp⟩
      have := HM0.out
      rw [show (w.alloc (.cells #[.slice A ps.length c] 58)).heap.size = w.heap.size + 1 by simp] at this
      exact this
    case round =>
      obtain ⟨k, hk, rfl, hgood, hown, hbl, hsz⟩ := hrel
      have HG := Lib.hid hgood
      have HO := Lib.hid hown
      have HB := Lib.hid hbl
      clear hgood hown hbl HM0
      by_cases hlt : k < ps.length
      · obtain ⟨ad, rfl, c0, c1, c2, c3⟩ := at4 (HR.out.below HB.out) k hlt _ _ _ _ rfl
        obtain ⟨⟨o0, o1⟩, o2, o3⟩ := HK.out ps[k] (List.getElem_mem hlt)
        have HKT := Lib.hid (fun p hp => HK.out p (List.mem_of_mem_take (i := k) hp))
        have hhas := has_dOf (ps.take k) HKT.out ps[k].m ps[k].r ps[k].b o0 o1 o2
        have hky := hkey ps[k].m ps[k].r ps[k].b o0 o1 o2
        have htk : ps.take (k + 1) = ps.take k ++ [ps[k]] := List.take_succ_eq_append_getElem hlt
        have hd := dOf_snoc (ps.take k) ps[k]
        rw [← htk] at hd
        have hga : goodAt ps k ps[k] = (okP ps[k] && !had (ps.take k) ps[k].m ps[k].r ps[k].b) := rfl
        have hgn := goodAt_iff ps k hlt HG.out
        have hbad : goodAt ps k ps[k] = false → ¬ Good ps := fun h hg => by
          have := hg.2 k ps[k] (List.getElem?_eq_getElem hlt)
          rw [h] at this
          cases this
        have hvl := plainElem_int (H := Unit) (P := Tryd.prog) (e := 3) Tryd.underlying3 (wf_of o3)
        have HBAD := Lib.hid hbad
        have HGN := Lib.hid hgn
        have HD := Lib.hid hd
        have HKY := Lib.hid hky
        have HVL := Lib.hid hvl
        have hki : (k : Int) < (ps.length : Int) := by omega
        have hk0 : (0 : Int) ≤ (k : Int) := by omega
        have hokp : okP ps[k] = (wok ps[k].m ps[k].r ps[k].b && decide (0 ≤ ps[k].t ∧ ps[k].t ≤ 65535)) := rfl
        have HW := Lib.hid (fun w => wmay_any ps[k].m ps[k].r ps[k].b w)
        obtain ⟨t0, t1⟩ := o3
        rw [hokp] at hga
        generalize goodAt ps k ps[k] = ga at *
        generalize dOf (ps.take k) = D1 at *
        generalize had (ps.take k) ps[k].m ps[k].r ps[k].b = hd1 at *
        generalize wok ps[k].m ps[k].r ps[k].b = wk at *
        generalize ps[k].m = m at *
        generalize ps[k].r = r at *
        generalize ps[k].b = b at *
        generalize ps[k].t = t at *
        have HHAS := Lib.hid hhas
        have HGA := Lib.hid hga
        clear hhas hky htk hd hga hgn hbad hvl o0 o1 o2 hokp
        go_wp2_with (fail)
        go_at_call 144
        refine (of_any _ _ _ _ _).mono ?_
        rintro e w1 ⟨rfl, hb1⟩
        obtain ⟨bc, bf⟩ := bcell hb1
        have hz1 := hb1.size
        simp at hz1
        have hba := blw_alloc (Below.refl wr.heap.size wr) (.cells #[.int .i64 m, .int .i64 r, .int .i64 b, .int .i64 t] 211)
        have hbw1 := hba.trans (hb1.mono (show wr.heap.size ≤ _ by simp))
        have HO1 := Lib.hid (map_after HO.out hbw1)
        have HB1 := Lib.hid (below_then HB.out HB.out.size hbw1)
        have lt1 : wr.heap.size < w1.heap.size := by omega
        have ag0 : w1.cell? ⟨wr.heap.size, 0, none⟩ = some (.int .i64 m) := by rw [bc _ _ (by first | omega | (simp <;> omega))]; first | with_reducible assumption | go_simp
        have af0 : w1.frozen? ⟨wr.heap.size, 0, none⟩ = false := by rw [bf _ _ (by first | omega | (simp <;> omega))]; first | with_reducible assumption | go_simp
        have ag1 : w1.cell? ⟨wr.heap.size, 1, none⟩ = some (.int .i64 r) := by rw [bc _ _ (by first | omega | (simp <;> omega))]; first | with_reducible assumption | go_simp
        have af1 : w1.frozen? ⟨wr.heap.size, 1, none⟩ = false := by rw [bf _ _ (by first | omega | (simp <;> omega))]; first | with_reducible assumption | go_simp
        have ag2 : w1.cell? ⟨wr.heap.size, 2, none⟩ = some (.int .i64 b) := by rw [bc _ _ (by first | omega | (simp <;> omega))]; first | with_reducible assumption | go_simp
        have af2 : w1.frozen? ⟨wr.heap.size, 2, none⟩ = false := by rw [bf _ _ (by first | omega | (simp <;> omega))]; first | with_reducible assumption | go_simp
        have ag3 : w1.cell? ⟨wr.heap.size, 3, none⟩ = some (.int .i64 t) := by rw [bc _ _ (by first | omega | (simp <;> omega))]; first | with_reducible assumption | go_simp
        have af3 : w1.frozen? ⟨wr.heap.size, 3, none⟩ = false := by rw [bf _ _ (by first | omega | (simp <;> omega))]; first | with_reducible assumption | go_simp
        clear hb1 hba hbw1 bc bf c0 c1 c2 c3
        cases hd1
        · rw [Bool.not_false, Bool.and_true] at HGA
          go_wp2_with (at_lookup; refine wpList_lookup_own_ok_int _ rfl _ _ 203 rfl 207 3 .i64 law Tryd.underlying203 Tryd.underlying3 (zeroE _) (w.heap.size + 1) k _ rfl (HO1.out.alloc _) _ _ rfl HKY.out ?_; intro c5 hat hwc; rw [HHAS.out]; clear hat hwc)
          go_at_call 111
          refine (HW.out _).mono ?_
          rintro e w2 ⟨rfl, hb2⟩
          obtain ⟨bc, bf⟩ := bcell hb2
          have hz2 := hb2.size
          simp at hz2
          have hba := blw_alloc (Below.refl w1.heap.size w1) (.cells #[.int .i64 m, .int .i64 r, .int .i64 b] 207)
          have hbw1 := hba.trans (hb2.mono (show w1.heap.size ≤ _ by simp))
          have HO2 := Lib.hid (map_after HO1.out hbw1)
          have HB2 := Lib.hid (below_then HB1.out HB1.out.size hbw1)
          have lt2 : wr.heap.size < w2.heap.size := by omega
          have lt3 : w1.heap.size < w2.heap.size := by omega
          have b0 : w2.cell? ⟨wr.heap.size, 0, none⟩ = some (.int .i64 m) := by rw [bc _ _ (by simp; omega)]; go_simp
          have b3 : w2.cell? ⟨wr.heap.size, 3, none⟩ = some (.int .i64 t) := by rw [bc _ _ (by simp; omega)]; go_simp
          have dg0 : w2.cell? ⟨w1.heap.size, 0, none⟩ = some (.int .i64 m) := by rw [bc _ _ (by first | omega | (simp <;> omega))]; first | with_reducible assumption | go_simp
          have dg1 : w2.cell? ⟨w1.heap.size, 1, none⟩ = some (.int .i64 r) := by rw [bc _ _ (by first | omega | (simp <;> omega))]; first | with_reducible assumption | go_simp
          have dg2 : w2.cell? ⟨w1.heap.size, 2, none⟩ = some (.int .i64 b) := by rw [bc _ _ (by first | omega | (simp <;> omega))]; first | with_reducible assumption | go_simp
          clear hb2 hba hbw1 bc bf ag0 ag1 ag2 ag3 af0 af1 af2 af3
          cases wk
          · have HF := Lib.hid (HBAD.out (by rw [HGA.out]; rfl))
            go_wp2_with (fail)
            go_ret2
            exact ⟨HB2.out, .inr ⟨HF.out, rfl⟩⟩
          · by_cases ht : 0 ≤ t ∧ t ≤ 65535
            · have HGK := Lib.hid (HGN.out (by rw [HGA.out, decide_eq_true ht]; rfl))
              obtain ⟨h0, h1⟩ := ht
              go_wp2_with (at_mapUpdate; refine wpList_mapUpdate_own _ rfl _ _ _ 203 rfl 207 3 law Tryd.underlying203 _ (w.heap.size + 1) k _ rfl HO2.out (by unfold maxLen; omega) _ _ _ rfl rfl HKY.out _ [] HVL.out ?_; intro w3 hown3 hgrow3; have HO3 := Lib.hid hown3; have HG3 := Lib.hid hgrow3; clear hown3 hgrow3)
              go_roundw
              case rel =>
                refine ⟨k + 1, by omega, by go_num, HGK.out, ?_, HB2.out.grown HG3.out HB2.out.size (by simp), ?_⟩
                · rw [HD.out]; exact HO3.out
                · have := HG3.out.size; omega
              case measure => simp [intOf]; omega
            · have HF := Lib.hid (HBAD.out (by rw [HGA.out, decide_eq_false ht]; rfl))
              by_cases h0 : t < 0
              · clear ht
                go_wp2_with (fail)
                go_ret2
                exact ⟨HB2.out, .inr ⟨HF.out, rfl⟩⟩
              · have h1 : 65535 < t := by omega
                clear ht
                go_wp2_with (fail)
                go_ret2
                exact ⟨HB2.out, .inr ⟨HF.out, rfl⟩⟩
        · rw [Bool.not_true, Bool.and_false] at HGA
          have HF := Lib.hid (HBAD.out HGA.out)
          go_wp2_with (at_lookup; refine wpList_lookup_own_ok_int _ rfl _ _ 203 rfl 207 3 .i64 law Tryd.underlying203 Tryd.underlying3 (zeroE _) (w.heap.size + 1) k _ rfl (HO1.out.alloc _) _ _ rfl HKY.out ?_; intro c5 hat hwc; rw [HHAS.out]; clear hat hwc)
          go_ret2
          exact ⟨blw_alloc HB1.out _, .inr ⟨HF.out, rfl⟩⟩
      · obtain rfl : k = ps.length := by omega
        have HGD := Lib.hid (show Good ps from ⟨h500, fun i p hp => HG.out i p (List.getElem?_eq_some_iff.1 hp).1 hp⟩)
        rw [List.take_of_length_le (Nat.le_refl _)] at HO
        go_wp2_with (fail)
        go_ret2
        exact ⟨HB.out, .inl ⟨HGD.out, w.heap.size + 1, rfl, HO.out⟩⟩
  · have HF := Lib.hid (show ¬ Good ps from fun h => h500 h.1)
    clear hr hk
    go_enter Tryd.func110, Tryd.ntmps110
    go_wp2_with (fail)
    go_ret2
    exact ⟨blw_alloc (Below.refl _ _) _, .inr ⟨HF.out, rfl⟩⟩
end Go.Proofs.YtccjcdecpgigpaaDoor.Orc
