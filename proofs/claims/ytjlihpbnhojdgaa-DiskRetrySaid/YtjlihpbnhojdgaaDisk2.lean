/- Slices of slices of words of the call's own; the contract of disk.Replay. -/
import Derived.Test.YtjlihpbnhojdgaaDisk
import Derived.Test.YtjlihpbnhojdgaaOpenS
import Derived.Deep.RegionHeld3
import Derived.Deep.AppendLies
import Derived.Deep.RegionLaw
namespace Go.Proofs.Ytjlihpbnhojdgaa.Cell
open Go.RowKit Go.Proofs.Ytjlihpbnhojdgaa.Base
set_option linter.unusedVariables false
set_option linter.unusedSimpArgs false
set_option maxRecDepth 20000
/-- A slice of slices of words. -/
def RdS (w : World) (A : Option Addr) (recs : List (List UInt32)) : Prop :=
  recs.length ≤ 9223372036854775807 ∧ (recs ≠ [] → ∃ ad, A = some ad ∧ ∀ i r, recs[i]? = some r → ∃ B c, w.cell? (ad.add i) = some (.slice B r.length c) ∧ RdE 1 encW w B r)
theorem RdS.below {w w1 : World} {A : Option Addr} {recs : List (List UInt32)} (h : RdS w A recs) (hb : Below w.heap.size w w1) : RdS w1 A recs :=
  ⟨h.1, fun hn => by
    obtain ⟨ad, e, hc⟩ := h.2 hn
    refine ⟨ad, e, fun i r hr => ?_⟩
    obtain ⟨B, c, h1, h2⟩ := hc i r hr
    exact ⟨B, c, (hb.cell (World.block_lt_of_cell? w _ h1)).trans h1, h2.below hb⟩⟩
theorem RdS.at {w : World} {A : Option Addr} {recs : List (List UInt32)} (h : RdS w A recs) (i : Nat) (hi : i < recs.length) : ∃ ad, A = some ad ∧ ∃ B c, w.cell? (ad.add i) = some (.slice B (recs[i]'hi).length c) ∧ RdE 1 encW w B (recs[i]'hi) := by
  obtain ⟨ad, e, hc⟩ := h.2 (by intro hn; subst hn; simp at hi)
  exact ⟨ad, e, hc i _ (List.getElem?_eq_getElem hi)⟩
open Go.ChangeShapes Go.WideShapes Go.ChangeAt in
theorem opens_words {H : Type} {enc : TypeId × Value → H} {W : World} : Open.Opens enc Try.prog W 36 (fun (xs : List UInt32) cs => ∃ A c, cs = [.slice A xs.length c] ∧ xs.length ≤ c ∧ Open.RdR 1 (fun (x : UInt32) cs => cs = encW x) W A xs) :=
  Open.opens_slice Try.underlying36 (by kernel_rfl) (Open.opens_u32 Try.underlying45)
theorem RdS.of {W : World} {A : Option Addr} {recs : List (List UInt32)} (h : Open.RdR 1 (fun (xs : List UInt32) cs => ∃ A c, cs = [Value.slice A xs.length c] ∧ xs.length ≤ c ∧ Open.RdR 1 (fun (x : UInt32) cs => cs = encW x) W A xs) W A recs) : RdS W A recs :=
  ⟨h.1, fun hn => by
    obtain ⟨ad, e, hc⟩ := h.2 hn
    refine ⟨ad, e, fun i r hr => ?_⟩
    obtain ⟨cs, _, ⟨B, c, rfl, _, hr⟩, hcell⟩ := hc i r hr
    exact ⟨B, c, by have := hcell 0 _ rfl; simpa using this, hr.toE⟩⟩
theorem info_sw : (Try.prog.info? 36).map (fun i => (i.zero, i.size, i.bytes)) = some (some (.slice none 0 0), 1, 24) := by kernel_rfl
theorem rd_grown {w w' : World} {row : Option Nat} {g : Nat} {r : List UInt32} (h : RdE 1 encW w (some ⟨g, 0, none⟩) r) (hg : w.grownBy w' row) (hl : g < w.heap.size) (hn : some g ≠ row) : RdE 1 encW w' (some ⟨g, 0, none⟩) r :=
  ⟨h.1, fun hne => by
    obtain ⟨ad, e, hc⟩ := h.2 hne
    cases e
    refine ⟨_, rfl, fun i x hx j u hu => ?_⟩
    have h1 := hc i x hx j u hu
    rw [add_plain] at h1 ⊢
    exact (World.cell?_of_block (hg.block g hl hn)).trans h1⟩
/-- A row of slices of words, each in a block of its own. -/
def OwS (B : Nat) (w : World) (v : Value) (recs : List (List UInt32)) : Prop :=
  ∃ vs : List Value, w.ownsRow B 36 1 v recs.length vs ∧ vs.length = recs.length ∧ ∀ (i : Nat) (r : List UInt32), recs[i]? = some r → ∃ g c, vs[i]? = some (Value.slice (some ⟨g, 0, none⟩) r.length c) ∧ some g ≠ v.ownBlock ∧ (B ≤ g ∧ g < w.heap.size) ∧ RdE 1 encW w (some ⟨g, 0, none⟩) r
theorem OwS.nil (B : Nat) (w : World) : OwS B w (.slice none 0 0) [] := ⟨[], World.ownsRow_nil _ _ _ _, rfl, fun i r h => by simp at h⟩
theorem OwS.after {B : Nat} {w w' : World} {v : Value} {recs : List (List UInt32)} (h : OwS B w v recs) (hb : Below w.heap.size w w') : OwS B w' v recs := by
  obtain ⟨vs, ho, hl, hx⟩ := h
  refine ⟨vs, ho.kept (row := none) ⟨hb.os, hb.tape, hb.output, hb.size, fun j hj _ => hb.block j hj⟩ (by cases hv : v.ownBlock <;> simp), hl, fun i r hr => ?_⟩
  obtain ⟨g, c, h1, h2, ⟨h3, h4⟩, h5⟩ := hx i r hr
  exact ⟨g, c, h1, h2, ⟨h3, Nat.lt_of_lt_of_le h4 hb.size⟩, h5.below hb⟩
theorem OwS.read {B : Nat} {w : World} {v : Value} {recs : List (List UInt32)} (h : OwS B w v recs) : ∃ A c, v = .slice A recs.length c ∧ RdS w A recs := by
  obtain ⟨vs, ho, hl, hx⟩ := h
  have ho' : w.ownsRow B 36 1 v vs.length (vs.flatMap fun u => [u]) := by
    rw [hl]
    have : (vs.flatMap fun u => [u]) = vs := by simp
    rw [this]
    exact ho
  obtain ⟨A, c, rfl, hr⟩ := own_read (enc := fun u : Value => [u]) (fun _ => rfl) (by decide) ho'
  refine ⟨A, c, by rw [hl], by have := hr.1; omega, fun hn => ?_⟩
  obtain ⟨ad, e, hc⟩ := hr.2 (by intro h0; subst h0; simp at hl; exact hn (List.eq_nil_of_length_eq_zero hl.symm))
  refine ⟨ad, e, fun i r hir => ?_⟩
  obtain ⟨g, cp, h1, _, _, h5⟩ := hx i r hir
  exact ⟨_, cp, by have := hc i _ h1 0 _ rfl; simpa using this, h5⟩
/-- One record more, behind an append. -/
theorem OwS.snoc {B : Nat} {w w1 : World} {v v1 : Value} {recs : List (List UInt32)} {vs : List Value} {r : List UInt32} {g c : Nat} (ho : w1.ownsRow B 36 1 v1 (recs.length + 1) (vs ++ [Value.slice (some ⟨g, 0, none⟩) r.length c]))
    (hl : vs.length = recs.length) (hx : ∀ (i : Nat) (x : List UInt32), recs[i]? = some x → ∃ g c, vs[i]? = some (Value.slice (some ⟨g, 0, none⟩) x.length c) ∧ some g ≠ v.ownBlock ∧ (B ≤ g ∧ g < w.heap.size) ∧ RdE 1 encW w (some ⟨g, 0, none⟩) x)
    (hg : w.grownBy w1 v.ownBlock) (hat : v1.ownBlock = v.ownBlock ∨ ∃ b, v1.ownBlock = some b ∧ w.heap.size ≤ b) (hr : RdE 1 encW w (some ⟨g, 0, none⟩) r) (hgl : B ≤ g ∧ g < w.heap.size) (hgn : some g ≠ v.ownBlock) (hsz : w.heap.size ≤ w1.heap.size) : OwS B w1 v1 (recs ++ [r]) := by
  have hne : ∀ k, k < w.heap.size → some k ≠ v.ownBlock → some k ≠ v1.ownBlock := by
    intro k hk hn e
    rcases hat with h | ⟨b, h, hb⟩
    · rw [h] at e; exact hn e
    · rw [h] at e; cases e; omega
  refine ⟨vs ++ [Value.slice (some ⟨g, 0, none⟩) r.length c], by rw [List.length_append]; exact ho, by simp [hl], fun i x hi => ?_⟩
  by_cases h : i < recs.length
  · rw [List.getElem?_append_left h] at hi
    obtain ⟨g', c', h1, h2, h3, h4⟩ := hx i x hi
    exact ⟨g', c', by rw [List.getElem?_append_left (by omega)]; exact h1, hne _ h3.2 h2, ⟨h3.1, by omega⟩, rd_grown h4 hg h3.2 h2⟩
  · rw [List.getElem?_append_right (by omega)] at hi
    have : i - recs.length = 0 := by
      have := (List.getElem?_eq_some_iff.1 hi).1
      simp at this
      omega
    rw [this] at hi
    simp at hi
    subst hi
    exact ⟨g, c, by rw [List.getElem?_append_right (by omega), hl, this]; rfl, hne _ hgl.2 hgn, ⟨hgl.1, by omega⟩, rd_grown hr hg hgl.2 hgn⟩
theorem OwS.set {b o : Nat} {w : World} {v u : Value} {recs : List (List UInt32)} (h : OwS (b + 1) w v recs) : OwS (b + 1) (w.setCell ⟨b, o, none⟩ u) v recs := by
  obtain ⟨vs, ho, hl, hx⟩ := h
  refine ⟨vs, ownsRow_setCell_below ho (by simp) _, hl, fun i r hr => ?_⟩
  obtain ⟨g, c, h1, h2, ⟨h3, h4⟩, h5⟩ := hx i r hr
  refine ⟨g, c, h1, h2, ⟨h3, by rw [World.size_setCell]; exact h4⟩, h5.1, fun hne => ?_⟩
  obtain ⟨ad, e, hc⟩ := h5.2 hne
  cases e
  refine ⟨_, rfl, fun i x hx j y hy => ?_⟩
  have h6 := hc i x hx j y hy
  rw [add_plain] at h6 ⊢
  exact (World.cell?_of_block (heap_setCell_other w ⟨b, o, none⟩ g u (by show g ≠ b; omega))).trans h6
set_option maxHeartbeats 4000000 in
theorem keep_any (b : Nat) (recs : List (List UInt32)) (v : Value) (r : List UInt32) (D : Option Addr) (d : Nat) (w : World) (hc : Cs w b [v]) (ho : OwS (b + 1) w v recs) (hr : RdE 1 encW w D r) (r0 : 1 ≤ r.length) (r1 : r.length ≤ 64) (hn : recs.length ≤ 5000) :
    Calls Try.prog 63 #[.slice D r.length d, .pointer (some ⟨b, 0, none⟩)] w fun e w' => e = .returned (.tuple #[]) ∧ ∃ v', Cs w' b [v'] ∧ OwS (b + 1) w' v' (recs ++ [r]) ∧ Below b w w' := by
  obtain ⟨i0, hi, hz0, hz1, hz2⟩ := info_parts info_u32
  obtain ⟨i1, gi, gz0, gz1, gz2⟩ := info_parts info_sw
  obtain ⟨vs, hown, hvl, hx⟩ := ho
  obtain ⟨O, oc, rfl⟩ : ∃ O oc, v = .slice O recs.length oc := by
    rcases hown.2 with ⟨h, h0⟩ | ⟨g', cap', cur, h, _⟩
    · exact ⟨none, 0, by rw [h, ← h0]⟩
    · exact ⟨_, _, h⟩
  obtain ⟨ad, rfl, _⟩ := hr.2 (by intro he; subst he; simp at r0)
  have hbl := hc.1
  have c0 := (hc.at 0 rfl).1
  have f0 := (hc.at 0 rfl).2
  have HR := Lib.hid (fun W (h : Below w.heap.size w W) => cells_flat (hr.below h))
  have HO := Lib.hid (fun W (h : Below w.heap.size w W) => own_kept hown h)
  have HX := Lib.hid hx
  have hnb : (Value.slice O recs.length oc).ownBlock ≠ some b := by
    intro h
    have := (hown.lt _ h).1
    omega
  have HNB := Lib.hid hnb
  have HOL := Lib.hid (fun g (h : (Value.slice O recs.length oc).ownBlock = some g) => hown.lt g h)
  have hk := Lib.hid (show ∀ (w4 w5 : World) (row : Option Nat), w4.grownBy w5 row → row ≠ some b → b < w4.heap.size → (w5.cell? ⟨b, 0, none⟩ = w4.cell? ⟨b, 0, none⟩ ∧ w5.frozen? ⟨b, 0, none⟩ = w4.frozen? ⟨b, 0, none⟩) from fun w4 w5 row hg hne hl => ⟨World.cell?_of_block (hg.block b hl (Ne.symm hne)), World.frozen?_of_block (hg.block b hl (Ne.symm hne))⟩)
  clear hc hown hx hnb hr
  have hlf := len_flat r
  have HLF := Lib.hid hlf
  have HVL := Lib.hid hvl
  clear hlf hvl
  go_enter Try.func63, Try.ntmps63
  go_wp2_with (fail)
  go_region_law (first | (refine step_append_lies _ (by rfl) _ _ _ (by rfl) (b + 1) 45 i0 (.int .u32 0) 1 4 Try.underlying36 hi hz0 hz1 hz2 rfl (by omega) (.slice none 0 0) 0 [] (by rfl) (World.ownsRow_nil _ _ _ _) ad r.length d (r.flatMap encW) (by rfl) (by rw [HLF.out]; omega) (HR.out _ (by repeat (first | with_reducible exact Below.refl _ _ | with_reducible refine blw_alloc ?_ _ | with_reducible refine Below.drew ?_ | with_reducible refine blw_step ?_ _ | with_reducible refine Below.setCell (p := ⟨_, _, none⟩) ?_ (by first | exact Nat.le_refl _ | (simp; done) | (simp; omega) | omega) _))) (one_flat r) (by omega) (by simp [maxLen]; omega) (by omega) (by have := hbl; simp; omega) _ rfl ?_; intro g1 c1 w5 hown1 hgrow1 hat1 hlt1; have k5 : w5.cell? ⟨b, 0, none⟩ = some (.slice O recs.length oc) := (by rw [(hk.out _ _ _ hgrow1 (by simp [Value.ownBlock]) (by simp; omega)).1]; go_simp); have f5 : w5.frozen? ⟨b, 0, none⟩ = false := (by rw [(hk.out _ _ _ hgrow1 (by simp [Value.ownBlock]) (by simp; omega)).2]; go_simp); have HB5 : Hid (Below w.heap.size w w5) := Lib.hid (below_then' (by repeat (first | with_reducible exact Below.refl _ _ | with_reducible refine blw_alloc ?_ _ | with_reducible refine Below.drew ?_ | with_reducible refine blw_step ?_ _ | with_reducible refine Below.setCell (p := ⟨_, _, none⟩) ?_ (by first | exact Nat.le_refl _ | (simp; done) | (simp; omega) | omega) _)) ((Below.refl _ _).grown hgrow1 (Nat.le_refl _) (by simp [Value.ownBlock]))); have HO5 := Lib.hid hown1; have s5 := HB5.out.size; have l5 : b < w5.heap.size := (by omega); have n5 : b ≠ w5.heap.size := (by omega); have n6 : w5.heap.size ≠ b := (by omega); clear hgrow1 hown1) | (refine step_append_lies _ (by rfl) _ _ _ (by rfl) (b + 1) 36 i1 (.slice none 0 0) 1 24 Try.underlying66 gi gz0 gz1 gz2 rfl (by omega) (.slice O recs.length oc) recs.length vs (by rfl) (HO.out _ (by repeat (first | with_reducible exact HB5.out | with_reducible refine blw_alloc ?_ _ | with_reducible refine Below.drew ?_ | with_reducible refine blw_step ?_ _ | with_reducible refine Below.setCell (p := ⟨_, _, none⟩) ?_ (by first | exact Nat.le_refl _ | (simp; done) | (simp; omega) | omega) _))) ⟨w5.heap.size, 0, none⟩ 1 1 [.slice (some ⟨g1, 0, none⟩) r.length c1] (by rfl) (by rfl) (World.news_of_block (cs := #[.slice (some ⟨g1, 0, none⟩) r.length c1]) (t := 36) (fr := (0, 0)) (heap_alloc_new w5 _)) (by simp [Value.oneCell']) (by omega) (by simp [maxLen]; omega) (by omega) (by simp; omega) _ rfl ?_; intro g2 c2 w6 hown2 hgrow2 hat2 hlt2; have k6 : w6.cell? ⟨b, 0, none⟩ = some (.slice O recs.length oc) := (by rw [(hk.out _ _ _ hgrow2 HNB.out (by simp; omega)).1]; go_simp); have f6 : w6.frozen? ⟨b, 0, none⟩ = false := (by rw [(hk.out _ _ _ hgrow2 HNB.out (by simp; omega)).2]; go_simp); have HG6 := Lib.hid hgrow2; have HO6 := Lib.hid hown2; have HA6 := Lib.hid hat2; clear hgrow2 hown2 hat2))
  all_goals
    go_end0
    have hg1 : g1 = w.heap.size := by
      rcases hat1 with h | h
      · simp [Value.ownBlock] at h
      · exact h
    have HBA := blw_alloc HB5.out (.cells #[.slice (some ⟨g1, 0, none⟩) r.length c1] 36)
    have hs6 := HG6.out.size
    simp only [World.size_alloc] at hs6
    have hgn : some g1 ≠ (Value.slice O recs.length oc).ownBlock := by
      intro h
      have := (HOL.out g1 h.symm).2
      omega
    have hrd : RdE 1 encW w5 (some ⟨g1, 0, none⟩) r := by
      have h5 := HO5.out
      rw [Nat.zero_add, List.nil_append] at h5
      exact OwW.read (show OwW (b + 1) w5 (some ⟨g1, 0, none⟩) c1 r from h5)
    refine ⟨rfl, .slice (some ⟨g2, 0, none⟩) (recs.length + 1) c2, Cs.put (Cs.one (by omega) k6 f6) (by simp) rfl, OwS.set (OwS.snoc (g := g1) (c := c1) HO6.out HVL.out ?_ HG6.out ?_ (hrd.below (blw_alloc (Below.refl _ _) _)) ⟨by omega, by simp; omega⟩ hgn (by simp; omega)), ?_⟩
    · intro i x hi
      obtain ⟨g, c, q1, q2, ⟨q3, q4⟩, q5⟩ := HX.out i x hi
      exact ⟨g, c, q1, q2, ⟨q3, by simp; omega⟩, q5.below HBA⟩
    · rcases HA6.out with h | h
      · exact .inl (by rw [h]; rfl)
      · exact .inr ⟨g2, rfl, by omega⟩
    · have h7 : Below b w w6 := (HBA.mono (by omega)).grown HG6.out (by simp; omega) (fun k hk => by have := (HOL.out k hk).1; omega)
      exact h7.setCell (p := ⟨b, 0, none⟩) (Nat.le_refl _) _
end Go.Proofs.Ytjlihpbnhojdgaa.Cell
