/- Opening structs, put together out of readings of their fields. -/
import Derived.Test.YtccjcdecpgigpaaDoorOpen
import Derived.ChangeSame
namespace Go.Proofs.YtccjcdecpgigpaaDoor.Open
set_option linter.unusedSimpArgs false
set_option maxRecDepth 20000
open Go.RowKit Go.ChangeShapes Go.WideShapes Go.ChangeAt Go.Proofs.YtccjcdecpgigpaaDoor.Base
section
variable {H : Type} {enc : TypeId × Value → H} {P : Program} {W : World}
theorem opens_mono {t : TypeId} {α β : Type} {K : α → List Value → Prop} {K' : β → List Value → Prop} (h : Opens enc P W t K) (f : ∀ x cs, K x cs → ∃ y, K' y cs) : Opens enc P W t K' := by
  intro n cs y hy
  obtain ⟨x, hx⟩ := h n cs y hy
  exact f x cs hx
/-- A field: which cells, and what reads there. -/
theorem opens_struct {t : TypeId} {fs : Array Field} {α : Type} {K : α → List Value → Prop} (ht : P.underlying t = some (.struct fs))
    (f : ∀ cs : List Value, cs.length = P.cellsOf t → (∀ (j : Nat) (fd : Field), fs[j]? = some fd → ∃ n y, DataW.trod enc P W 0 (fun _ => true) true n fd.type ((cs.drop fd.offset).take (P.cellsOf fd.type)) = some y) → ∃ x, K x cs) : Opens enc P W t K := by
  intro n cs y hy
  obtain ⟨xs, m, _, rfl, hl, hlen, hf⟩ := DataW.trod_struct ht hy
  refine f cs hl fun j fd hj => ?_
  have hjl : j < xs.length := by
    have := (Array.getElem?_eq_some_iff.1 hj).1
    omega
  exact ⟨m, xs[j], by
    have := hf j fd hj
    rw [this]
    exact List.getElem?_eq_getElem hjl⟩
theorem fld {fs : Array Field} {cs : List Value} (hf : ∀ (j : Nat) (fd : Field), fs[j]? = some fd → ∃ n y, DataW.trod enc P W 0 (fun _ => true) true n fd.type ((cs.drop fd.offset).take (P.cellsOf fd.type)) = some y)
    (j : Nat) {fd : Field} (hj : fs[j]? = some fd) {t : TypeId} (off k : Nat) (ht : fd.type = t) (ho : fd.offset = off) (hk : P.cellsOf t = k) {α : Type} {K : α → List Value → Prop} (hK : Opens enc P W t K) : ∃ x, K x ((cs.drop off).take k) := by
  obtain ⟨n, y, h⟩ := hf j fd hj
  rw [ht, ho, hk] at h
  exact hK n _ y h
end
end Go.Proofs.YtccjcdecpgigpaaDoor.Open
