/- Opening a row's arguments: readings by type, put together. -/
import Derived.Test.YtccjcdecpgigpaaDoorBase
import Derived.ProofKit
import Derived.OpenShut
import Derived.ShutString
import Derived.ChangeOld
import Derived.SizedLaws
import Derived.Carry
import Derived.Deep.Slices
namespace Go.Proofs.YtccjcdecpgigpaaDoor.Open
open Go.RowKit Go.ChangeShapes Go.WideShapes Go.ChangeAt Go.Proofs.YtccjcdecpgigpaaDoor.Base
set_option linter.unusedVariables false
set_option linter.unusedSimpArgs false
set_option maxRecDepth 20000

section
variable {H : Type} {enc : TypeId × Value → H} {P : Program} {W : World}
/-- What reads at type t is the cells of some x that K tells. -/
def Opens (enc : TypeId × Value → H) (P : Program) (W : World) (t : TypeId) {α : Type} (K : α → List Value → Prop) : Prop :=
  ∀ n cs y, DataW.trod enc P W 0 (fun _ => true) true n t cs = some y → ∃ x, K x cs
theorem opens_int {t : TypeId} {k : IntKind} (ht : P.underlying t = some (.int k)) : Opens enc P W t (fun (n : Int) cs => cs = [.int k n] ∧ (Lit.int k n).wf = true) := by
  intro n cs y h
  obtain ⟨x, h1, _, h2⟩ := DataW.trod_int ht h
  exact ⟨x, h1, h2⟩
theorem opens_u8 {t : TypeId} (ht : P.underlying t = some (.int .u8)) : Opens enc P W t (fun (c : UInt8) cs => cs = encB c) := by
  intro n cs y h
  obtain ⟨x, h1, _, h2⟩ := DataW.trod_int ht h
  simp [Lit.wf, IntKind.min, IntKind.max, IntKind.bits, IntKind.signed] at h2
  refine ⟨UInt8.ofNat x.toNat, ?_⟩
  rw [h1]
  show [Value.int .u8 x] = encB _
  unfold encB
  have : (((UInt8.ofNat x.toNat).toNat : Nat) : Int) = x := by simp; omega
  rw [this]
theorem opens_u32 {t : TypeId} (ht : P.underlying t = some (.int .u32)) : Opens enc P W t (fun (c : UInt32) cs => cs = encW c) := by
  intro n cs y h
  obtain ⟨x, h1, _, h2⟩ := DataW.trod_int ht h
  simp [Lit.wf, IntKind.min, IntKind.max, IntKind.bits, IntKind.signed] at h2
  refine ⟨UInt32.ofNat x.toNat, ?_⟩
  rw [h1]
  show [Value.int .u32 x] = encW _
  unfold encW
  have : (((UInt32.ofNat x.toNat).toNat : Nat) : Int) = x := by simp; omega
  rw [this]
theorem opens_bool {t : TypeId} (ht : P.underlying t = some .bool) : Opens enc P W t (fun (b : Bool) cs => cs = [.bool b]) := by
  intro n cs y h
  obtain ⟨x, h1, _⟩ := DataW.trod_bool ht h
  exact ⟨x, h1⟩
theorem opens_str {t : TypeId} (ht : P.underlying t = some .string) : Opens enc P W t (fun (s : ByteArray) cs => cs = [.string s] ∧ s.size ≤ maxLen) := by
  intro n cs y h
  obtain ⟨x, h1, _, h2⟩ := DataW.trod_string ht h
  exact ⟨x, h1, h2⟩

/-- A slice whose elements' cells are told by a relation. -/
def RdR {α : Type} (size : Nat) (K : α → List Value → Prop) (w : World) (A : Option Addr) (xs : List α) : Prop :=
  xs.length ≤ 9223372036854775807 ∧ (xs ≠ [] → ∃ ad, A = some ad ∧ ∀ i x, xs[i]? = some x → ∃ cs, cs.length = size ∧ K x cs ∧ ∀ j u, cs[j]? = some u → w.cell? (ad.add (i * size + j)) = some u)
theorem RdR.toE {α : Type} {size : Nat} {f : α → List Value} {w : World} {A : Option Addr} {xs : List α} (h : RdR size (fun x cs => cs = f x) w A xs) : RdE size f w A xs :=
  ⟨h.1, fun hn => by
    obtain ⟨ad, e, hc⟩ := h.2 hn
    refine ⟨ad, e, fun i x hx j u hu => ?_⟩
    obtain ⟨cs, _, rfl, h1⟩ := hc i x hx
    exact h1 j u hu⟩
theorem RdR.toE' {α : Type} {size : Nat} {f : α → List Value} {q : α → Prop} {w : World} {A : Option Addr} {xs : List α} (h : RdR size (fun x cs => cs = f x ∧ q x) w A xs) : RdE size f w A xs ∧ ∀ x ∈ xs, q x := by
  refine ⟨⟨h.1, fun hn => ?_⟩, fun x hx => ?_⟩
  · obtain ⟨ad, e, hc⟩ := h.2 hn
    refine ⟨ad, e, fun i x hx j u hu => ?_⟩
    obtain ⟨cs, _, ⟨rfl, _⟩, h1⟩ := hc i x hx
    exact h1 j u hu
  · obtain ⟨ad, e, hc⟩ := h.2 (List.ne_nil_of_mem hx)
    obtain ⟨i, hi, rfl⟩ := List.getElem_of_mem hx
    obtain ⟨cs, _, ⟨_, hq⟩, _⟩ := hc i _ (List.getElem?_eq_getElem hi)
    exact hq
theorem choose_list {α : Type} {p : Nat → α → Prop} : ∀ (n : Nat), (∀ i, i < n → ∃ x, p i x) → ∃ xs : List α, xs.length = n ∧ ∀ i x, xs[i]? = some x → p i x
  | 0, _ => ⟨[], rfl, by intro i x h; simp at h⟩
  | n + 1, h => by
    obtain ⟨xs, hl, hx⟩ := choose_list n (fun i hi => h i (by omega))
    obtain ⟨x, hp⟩ := h n (by omega)
    refine ⟨xs ++ [x], by simp [hl], ?_⟩
    intro i y hy
    by_cases hi : i < n
    · exact hx i y (by rwa [List.getElem?_append_left (by omega)] at hy)
    · rw [List.getElem?_append_right (by omega)] at hy
      have : i - xs.length = 0 := by
        have := (List.getElem?_eq_some_iff.1 hy).1
        simp at this
        omega
      rw [this] at hy
      simp at hy
      subst hy
      have : i = n := by omega
      rw [this]; exact hp
theorem opens_slice {t e : TypeId} {α : Type} {K : α → List Value → Prop} (ht : P.underlying t = some (.slice e)) {size : Nat} (hc : P.cellsOf e = size) (hK : Opens enc P W e K) :
    Opens enc P W t (fun (xs : List α) cs => ∃ A c, cs = [.slice A xs.length c] ∧ xs.length ≤ c ∧ RdR size K W A xs) := by
  intro n cs y h
  rcases Go.Deep.open_slice ht h with ⟨rfl, _⟩ | ⟨a, len, cap, m, k, D, Pl, rfl, _, hl, hm, hmm, _, hx⟩
  · exact ⟨[], none, 0, rfl, Nat.le_refl _, by simp, fun h => absurd rfl h⟩
  · have each : ∀ i, i < len → ∃ x, ∃ cs, cs.length = size ∧ K x cs ∧ ∀ j u, cs[j]? = some u → W.cell? (a.add (i * size + j)) = some u := by
      intro i hi
      have him : i < m := by rw [hmm]; split <;> omega
      obtain ⟨cs', h1, h2⟩ := hx i him
      rw [hc] at h1
      obtain ⟨x, hx⟩ := hK _ _ _ h2
      obtain ⟨_, hlen, hcell⟩ := World.cells?_some h1
      refine ⟨x, cs', hlen, hx, fun j u hu => ?_⟩
      have hj : j < cs'.length := (List.getElem?_eq_some_iff.1 hu).1
      have := hcell j (by omega)
      rw [Go.Deep.add_add] at this
      rw [this]; exact hu
    obtain ⟨xs, hxl, hxs⟩ := choose_list len each
    subst hxl
    simp only [maxLen] at hm
    exact ⟨xs, some a, cap, rfl, hl, by omega, fun _ => ⟨a, rfl, hxs⟩⟩
theorem top_slice {t e : TypeId} {r : Reach} {b0 : Nat} {v : Value} {d : DataW H} {ps : List MemPlace} {α : Type} {K : α → List Value → Prop} (ht : P.underlying t = some (.slice e)) {size : Nat} (hc : P.cellsOf e = size) (hK : Opens enc P W e K)
    (hv : Value.okWide P W r b0 t v) (h : DataW.Trod enc P W 0 (fun _ => true) true t v d ps) : ∃ (A : Option Addr) (xs : List α) (c : Nat), v = .slice A xs.length c ∧ xs.length ≤ c ∧ RdR size K W A xs := by
  obtain ⟨a, len, cap, rfl⟩ := okWide_slice ht hv
  obtain ⟨n, hn⟩ := h
  obtain ⟨xs, A, c, he, hl, hr⟩ := opens_slice ht hc hK _ _ _ hn
  simp [Value.cells] at he
  obtain ⟨rfl, rfl, rfl⟩ := he
  exact ⟨a, xs, cap, rfl, hl, hr⟩
theorem okWide_agg_of {t : TypeId} {r : Reach} {b0 : Nat} {v : Value} (hb : (match P.underlying t with | some (.struct _) | some (.array _ _) => true | _ => false) = true) (hv : Value.okWide P W r b0 t v) : ∃ cs : Array Value, v = .agg cs := by
  unfold Value.okWide at hv
  split at hv
  · obtain ⟨cs, h, _⟩ := hv; exact ⟨cs, h⟩
  · obtain ⟨cs, h, _⟩ := hv; exact ⟨cs, h⟩
  · rename_i h1 h2
    split at hb
    · rename_i fs h; exact absurd h (h1 _)
    · rename_i n e h; exact absurd h (h2 _ _)
    · exact absurd hb (by decide)
theorem top_agg {t : TypeId} {v : Value} {d : DataW H} {ps : List MemPlace} {α : Type} {K : α → List Value → Prop} (hK : Opens enc P W t K) (hv : ∃ cs : Array Value, v = .agg cs)
    (h : DataW.Trod enc P W 0 (fun _ => true) true t v d ps) : ∃ (x : α) (cs : List Value), v = .agg cs.toArray ∧ K x cs := by
  obtain ⟨cs, rfl⟩ := hv
  obtain ⟨n, hn⟩ := h
  obtain ⟨x, hx⟩ := hK _ _ _ hn
  exact ⟨x, cs.toList, by simp, hx⟩
theorem slice_weight {t e : TypeId} {a : Option Addr} {len cap : Nat} {d : DataW H} {ps : List MemPlace} {ts : List TypeId} {ds : List (DataW H)} {j : Nat}
    (hsz : (DataW.weightsEach P ts ds).all (· ≤ reachBytes) = true) (ht : ts[j]? = some t) (hd : ds[j]? = some d) (hu : P.underlying t = some (.slice e)) {B : Nat} (hB : P.bytesOf e = B)
    (h : DataW.Trod enc P W 0 (fun _ => true) true t (.slice a len cap) d ps) : len * B ≤ 140737488351232 := by
  obtain ⟨fuel, hf⟩ := h
  rcases Go.Deep.open_slice hu hf with ⟨hcs, _⟩ | ⟨a', len', cap', m, n, D, Pl, hcs, _, _, _, _, hx, _⟩
  · simp [Value.cells] at hcs
    obtain ⟨_, rfl, _⟩ := hcs
    simp
  · simp [Value.cells] at hcs
    obtain ⟨rfl, rfl, rfl⟩ := hcs
    simp only [Prod.mk.injEq] at hx
    rw [hx.1] at hd
    have z := sized_slice hsz ht hd hu
    simp only [List.length_map, List.length_range, hB] at z
    exact Nat.le_trans (Nat.mul_le_mul_right _ (by omega)) z
end
end Go.Proofs.YtccjcdecpgigpaaDoor.Open
