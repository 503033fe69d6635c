/- Blocks whose cells hold known values. -/
import Derived.Test.YtccjcdecpgigpaaDoorBase
namespace Go.Proofs.YtccjcdecpgigpaaDoor.Base
open Go.RowKit
set_option linter.unusedVariables false
set_option linter.unusedSimpArgs false
set_option maxRecDepth 20000
/-- The block b holds just these values from its first cell on, none of them frozen. -/
def Cs (w : World) (b : Nat) (vs : List Value) : Prop := b < w.heap.size ∧ ∀ i v, vs[i]? = some v → w.cell? ⟨b, i, none⟩ = some v ∧ w.frozen? ⟨b, i, none⟩ = false
theorem Cs.at {w : World} {b : Nat} {vs : List Value} (h : Cs w b vs) (i : Nat) {v : Value} (hv : vs[i]? = some v) : w.cell? ⟨b, i, none⟩ = some v ∧ w.frozen? ⟨b, i, none⟩ = false := h.2 i v hv
theorem Cs.below {w w' : World} {b : Nat} {vs : List Value} (h : Cs w b vs) {B : Nat} (hb : Below B w w') (hB : b < B) : Cs w' b vs :=
  ⟨Nat.lt_of_lt_of_le h.1 hb.size, fun i v hv => ⟨(hb.cell (p := ⟨b, i, none⟩) hB).trans (h.2 i v hv).1, (hb.frozen (p := ⟨b, i, none⟩) hB).trans (h.2 i v hv).2⟩⟩
theorem Cs.after {w w' : World} {b : Nat} {vs : List Value} (h : Cs w b vs) (hb : Below w.heap.size w w') : Cs w' b vs := h.below hb h.1
theorem Cs.alloc {w : World} {b : Nat} {vs : List Value} (h : Cs w b vs) (o : Obj) : Cs (w.alloc o) b vs := h.after (blw_alloc (Below.refl _ _) o)
theorem Cs.drew {w : World} {b : Nat} {vs : List Value} (h : Cs w b vs) : Cs w.drew b vs := h.after (Below.refl _ _).drew
theorem Cs.drewN {w : World} {b : Nat} {vs : List Value} (h : Cs w b vs) (n : Nat) : Cs (w.drewN n) b vs := h.after (blw_drewN _ _ _)
theorem Cs.other {w : World} {b : Nat} {vs : List Value} {a : Addr} (hne : a.block ≠ b) (h : Cs w b vs) (v : Value) : Cs (w.setCell a v) b vs := by
  have hh : (w.setCell a v).heap[b]? = w.heap[b]? := heap_setCell_other w a b v (Ne.symm hne)
  exact ⟨by rw [World.size_setCell]; exact h.1, fun i x hx => ⟨(World.cell?_of_block hh).trans (h.2 i x hx).1, (World.frozen?_of_block hh).trans (h.2 i x hx).2⟩⟩
theorem Cs.new {w : World} {b : Nat} {vs : List Value} {t : TypeId} (hb : b = w.heap.size) : Cs (w.alloc (.cells vs.toArray t)) b vs := by
  subst hb
  refine ⟨by rw [World.size_alloc]; omega, fun i v hv => ⟨?_, ?_⟩⟩
  · have := World.news_of_block (cs := vs.toArray) (t := t) (fr := (0, 0)) (MapKept.heap_alloc w _).1 i v (by simpa using hv)
    rwa [add_plain] at this
  · rw [frozen?_alloc_cells]
    simp [World.frozen?]
theorem Cs.put {w : World} {b i : Nat} {vs vs' : List Value} {v : Value} (h : Cs w b vs) (hi : i < vs.length) (hv : vs' = vs.set i v) : Cs (w.setCell ⟨b, i, none⟩ v) b vs' := by
  subst hv
  refine ⟨by rw [World.size_setCell]; exact h.1, fun j x hx => ?_⟩
  obtain ⟨u, hu⟩ : ∃ u, vs[i]? = some u := ⟨vs[i], List.getElem?_eq_getElem hi⟩
  have hc := h.2 i u hu
  refine ⟨?_, ?_⟩
  · by_cases e : i = j
    · subst e
      rw [List.getElem?_set_self hi] at hx
      cases hx
      exact World.cell?_setCell_same' _ _ _ (by rw [hc.1]; rfl)
    · rw [List.getElem?_set_ne e] at hx
      refine (World.cell?_setCell_other _ _ _ _ (by simp [e])).trans ?_
      exact (h.2 j x hx).1
  · rw [World.frozen?_setCell]
    by_cases e : i = j
    · subst e
      exact hc.2
    · rw [List.getElem?_set_ne e] at hx
      exact (h.2 j x hx).2
theorem Cs.new_after {W w' : World} {vs : List Value} {t : TypeId} (hb : Below (W.alloc (.cells vs.toArray t)).heap.size (W.alloc (.cells vs.toArray t)) w') : Cs w' W.heap.size vs := (Cs.new rfl).after hb
theorem Cs.new_afterD {W w' : World} {vs : List Value} {t : TypeId} (hb : Below (W.alloc (.cells vs.toArray t)).drew.heap.size (W.alloc (.cells vs.toArray t)).drew w') : Cs w' W.heap.size vs := (Cs.new rfl).drew.after hb
theorem Cs.one {w : World} {b : Nat} {v : Value} (hl : b < w.heap.size) (h : w.cell? ⟨b, 0, none⟩ = some v) (hf : w.frozen? ⟨b, 0, none⟩ = false) : Cs w b [v] :=
  ⟨hl, fun i u hu => by
    cases i with
    | zero => simp at hu; subst hu; exact ⟨h, hf⟩
    | succ i => simp at hu⟩
theorem own_kept {B : Nat} {e : TypeId} {k : Nat} {v : Value} {n : Nat} {xs : List Value} {w w' : World} (h : w.ownsRow B e k v n xs) (hb : Below w.heap.size w w') : w'.ownsRow B e k v n xs :=
  h.kept (row := none) ⟨hb.os, hb.tape, hb.output, hb.size, fun j hj _ => hb.block j hj⟩ (by cases hv : v.ownBlock <;> simp)
theorem own_less {B B' : Nat} {e : TypeId} {k : Nat} {v : Value} {n : Nat} {xs : List Value} {w : World} (h : w.ownsRow B e k v n xs) (hb : B' ≤ B) : w.ownsRow B' e k v n xs :=
  ⟨h.1, h.2.imp (fun x => x) (fun ⟨g, cap, cur, h1, h2, h3⟩ => ⟨g, cap, cur, h1, Nat.le_trans hb h2, h3⟩)⟩
theorem slice_len {A : Option Addr} {n m c : Nat} (h : n = m) : Value.slice A n c = .slice A m c := by rw [h]
theorem own_box {w : World} {base g size : Nat} {e : TypeId} {cs : List Value} (h : w.heap[g]? = some (.cells cs.toArray e (0, 0))) (hb : base ≤ g) (hn : cs.length = size) : w.ownsRow base e size (.slice (some ⟨g, 0, none⟩) 1 1) 1 cs :=
  ⟨by simp [hn], .inr ⟨g, 1, cs.toArray, rfl, hb, h, Nat.le_refl _, by simp [maxLen], by simp [hn], List.take_of_length_le (by simp [hn])⟩⟩
end Go.Proofs.YtccjcdecpgigpaaDoor.Base
