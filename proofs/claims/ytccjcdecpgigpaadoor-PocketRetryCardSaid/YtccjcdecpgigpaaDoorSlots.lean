/- Slices of slices of words; the contract of slots. -/
import Derived.Test.YtccjcdecpgigpaaDoorSlot2
import Derived.Test.YtccjcdecpgigpaaDoorOpenS
namespace Go.Proofs.YtccjcdecpgigpaaDoor.Cell
open Go.RowKit Go.Proofs.YtccjcdecpgigpaaDoor.Base Go.Proofs.YtccjcdecpgigpaaDoor.Cell
set_option linter.unusedVariables false
set_option linter.unusedSimpArgs false
set_option maxRecDepth 20000

/-- A slice of slices of words. -/
def RdS (w : World) (A : Option Addr) (recs : List (List UInt32)) : Prop :=
  recs.length ≤ 9223372036854775807 ∧ (recs ≠ [] → ∃ ad, A = some ad ∧ ∀ i r, recs[i]? = some r → ∃ B c, w.cell? (ad.add i) = some (.slice B r.length c) ∧ RdE 1 encW w B r)
theorem RdS.below {w w1 : World} {A : Option Addr} {recs : List (List UInt32)} (h : RdS w A recs) (hb : Below w.heap.size w w1) : RdS w1 A recs :=
  ⟨h.1, fun hn => by
    obtain ⟨ad, e, hc⟩ := h.2 hn
    refine ⟨ad, e, fun i r hr => ?_⟩
    obtain ⟨B, c, h1, h2⟩ := hc i r hr
    exact ⟨B, c, (hb.cell (World.block_lt_of_cell? w _ h1)).trans h1, h2.below hb⟩⟩
theorem RdS.at {w : World} {A : Option Addr} {recs : List (List UInt32)} (h : RdS w A recs) (i : Nat) (hi : i < recs.length) : ∃ ad, A = some ad ∧ ∃ B c, w.cell? (ad.add i) = some (.slice B (recs[i]'hi).length c) ∧ RdE 1 encW w B (recs[i]'hi) := by
  obtain ⟨ad, e, hc⟩ := h.2 (by intro hn; subst hn; simp at hi)
  exact ⟨ad, e, hc i _ (List.getElem?_eq_getElem hi)⟩
open Go.ChangeShapes Go.WideShapes Go.ChangeAt in
theorem opens_words {H : Type} {enc : TypeId × Value → H} {W : World} : Open.Opens enc Tryd.prog W 50 (fun (xs : List UInt32) cs => ∃ A c, cs = [.slice A xs.length c] ∧ xs.length ≤ c ∧ Open.RdR 1 (fun (x : UInt32) cs => cs = encW x) W A xs) :=
  Open.opens_slice Tryd.underlying50 (by kernel_rfl) (Open.opens_u32 Tryd.underlying93)
theorem RdS.of {W : World} {A : Option Addr} {recs : List (List UInt32)} (h : Open.RdR 1 (fun (xs : List UInt32) cs => ∃ A c, cs = [Value.slice A xs.length c] ∧ xs.length ≤ c ∧ Open.RdR 1 (fun (x : UInt32) cs => cs = encW x) W A xs) W A recs) : RdS W A recs :=
  ⟨h.1, fun hn => by
    obtain ⟨ad, e, hc⟩ := h.2 hn
    refine ⟨ad, e, fun i r hr => ?_⟩
    obtain ⟨cs, _, ⟨B, c, rfl, _, hr⟩, hcell⟩ := hc i r hr
    exact ⟨B, c, by have := hcell 0 _ rfl; simpa using this, hr.toE⟩⟩
theorem apply_all (cw : List UInt32) (ws : List Wr) (A L : Option Addr) (c d : Nat) (w : World) (hc : RdE 1 encW w A cw) (hws : RdE 2 Wr.enc w L ws) (h0 : 1 ≤ cw.length) (h1 : cw.length ≤ 2048)
    (hw : ws.length ≤ 4096) (hd : ws.length ≤ d) (hin : ∀ x ∈ ws, x.at_ < cw.length) :
    Calls Tryd.prog 25 #[.slice A cw.length c, .slice L ws.length d, .int .i64 (ws.length : Int)] w fun e w' => ∃ B q, e = .returned (.tuple #[.slice B (applyL cw ws).length q, .int .i64 0]) ∧ OwW w.heap.size w' B q (applyL cw ws) ∧ Below w.heap.size w w' := by
  have := apply_any cw ws ws.length ws.length A L c d w hc hws h0 h1 hw hd hin rfl (Nat.le_refl _)
  rwa [List.take_of_length_le (Nat.le_refl _)] at this






































































































end Go.Proofs.YtccjcdecpgigpaaDoor.Cell
