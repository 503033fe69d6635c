/- Appending a whole slice; cells of rows with elements of several cells. -/
import Derived.Test.YtccjcdecpgigpaaDoorBase
import Derived.Laws.AppendOwnNone
namespace Go.Proofs.YtccjcdecpgigpaaDoor.Base
open Go.RowKit
set_option linter.unusedVariables false
set_option linter.unusedSimpArgs false
set_option maxRecDepth 20000

theorem wrap64 (n : Int) (h0 : -9223372036854775808 ≤ n) (h1 : n ≤ 9223372036854775807) : IntKind.i64.wrap n = n := by
  simp [IntKind.wrap, IntKind.bits, IntKind.signed]
  omega
theorem cell_old {w : World} {a : Addr} {v : Value} (h : w.cell? a = some v) : ∀ o, (w.alloc o).cell? a = some v := fun o => ((blw_alloc (Below.refl w.heap.size w) o).cell (World.block_lt_of_cell? w _ h)).trans h
theorem flat_len {α : Type} {size : Nat} {enc : α → List Value} (hs : ∀ x, (enc x).length = size) : ∀ xs : List α, (xs.flatMap enc).length = xs.length * size
  | [] => by simp
  | x :: xs => by
    have := flat_len hs xs
    simp only [List.flatMap_cons, List.length_append, List.length_cons, hs, this]
    rw [Nat.succ_mul]
    omega
theorem flat_get {α : Type} {size : Nat} {enc : α → List Value} (hs : ∀ x, (enc x).length = size) : ∀ (xs : List α) (i j : Nat), j < size → (xs.flatMap enc)[i * size + j]? = (xs[i]?).bind fun x => (enc x)[j]?
  | [], i, j, h => by simp
  | x :: xs, 0, j, h => by
    simp only [List.flatMap_cons, Nat.zero_mul, Nat.zero_add]
    rw [List.getElem?_append_left (by rw [hs]; exact h)]
    rfl
  | x :: xs, i + 1, j, h => by
    have := flat_get hs xs i j h
    simp only [List.flatMap_cons]
    rw [List.getElem?_append_right (by rw [hs, Nat.succ_mul]; omega), hs]
    rw [show (i + 1) * size + j - size = i * size + j by rw [Nat.succ_mul]; omega, this]
    simp
theorem flat_put {α : Type} {size : Nat} {enc : α → List Value} (hs : ∀ x, (enc x).length = size) (v : Value) (y : α) : ∀ (xs : List α) (i j : Nat) (hi : i < xs.length), j < size → (enc xs[i]).set j v = enc y → (xs.flatMap enc).set (i * size + j) v = (xs.set i y).flatMap enc
  | [], i, j, hi, h, he => by simp at hi
  | x :: xs, 0, j, hi, h, he => by
    simp only [List.flatMap_cons, Nat.zero_mul, Nat.zero_add, List.set_cons_zero]
    rw [List.set_append, if_pos (by rw [hs]; exact h)]
    rw [show (enc x).set j v = enc y from he]
  | x :: xs, i + 1, j, hi, h, he => by
    have hi' : i < xs.length := by simp at hi; omega
    have := flat_put hs v y xs i j hi' h (by simpa using he)
    simp only [List.flatMap_cons, List.set_cons_succ]
    rw [List.set_append, if_neg (by rw [hs, Nat.succ_mul]; omega), hs]
    rw [show (i + 1) * size + j - size = i * size + j by rw [Nat.succ_mul]; omega, this]
theorem flat_cells {α : Type} {size : Nat} {enc : α → List Value} (hs : ∀ x, (enc x).length = size) (hp : 0 < size) {w : World} {ad : Addr} {xs : List α} (h : RdE size enc w (some ad) xs) : ∀ j u, (xs.flatMap enc)[j]? = some u → w.cell? (ad.add j) = some u := by
  intro j u hj
  have hjl : j < xs.length * size := by
    have := (List.getElem?_eq_some_iff.1 hj).1
    rwa [flat_len hs] at this
  have hq : j / size < xs.length := (Nat.div_lt_iff_lt_mul hp).2 hjl
  have hr : j % size < size := Nat.mod_lt _ hp
  have hd : j / size * size + j % size = j := by
    have := Nat.div_add_mod j size
    rw [Nat.mul_comm] at this
    exact this
  have he := flat_get hs xs (j / size) (j % size) hr
  rw [hd, hj, List.getElem?_eq_getElem hq] at he
  obtain ⟨ad', e, hc⟩ := h.2 (by intro hn; subst hn; simp at hq)
  cases e
  have := hc (j / size) _ (List.getElem?_eq_getElem hq) (j % size) u he.symm
  rwa [hd] at this
section
variable {P : Program} {ops : Array Oper} {rest : List Oper} {o : Oper} {a : Act} {Q : Exit → Act → World → Prop}
/-- append(v, ys...). -/
theorem appN {α : Type} {enc : α → List Value} {w0 W : World} (base : Nat) (hgd : o.guard = none) (s x : Operand) (t e : TypeId) (z : Value) (size bytes : Nat)
    (ho : o.op = .call { callee := .builtin .append, args := #[s, x], argTypes := #[t, t] })
    (ht : P.underlying t = some (.slice e)) (hinfo : (P.info? e).map (fun i => (i.zero, i.size, i.bytes)) = some (some z, size, bytes)) (hz : z.cells.size = size) (hs0 : 0 < size) (hb0 : 0 < bytes)
    (v : Value) (n : Nat) (xs : List Value) (ys : List α) (A : Option Addr) (c : Nat) (hs : a.eval s = v) (hx : a.eval x = .slice A ys.length c) (hA : A = none → ys = [] ∧ c = 0)
    (hsz : ∀ x, (enc x).length = size) (hrd : RdE size enc W A ys) (h1 : ∀ x, ∀ u ∈ enc x, u.oneCell' = true)
    (HO : W.ownsRow base e size v n xs) (HB : Below base w0 W) (hbase : base ≤ W.heap.size) (hl : (n + ys.length) * bytes ≤ 140737488355328)
    (h : ∀ v1 w1, w1.ownsRow base e size v1 (n + ys.length) (xs ++ ys.flatMap enc) → Below base w0 w1 → W.grownBy w1 v.ownBlock → wpList P ops Q rest (a.put o.dst v1) w1) :
    wpList P ops Q (o :: rest) a W := by
  obtain ⟨i0, hi, hzz⟩ := Option.map_eq_some_iff.1 hinfo
  simp only [Prod.mk.injEq] at hzz
  obtain ⟨hz0, hz1, hz2⟩ := hzz
  cases A with
  | none =>
    obtain ⟨rfl, rfl⟩ := hA rfl
    refine wpList_append_own_none hgd s x t ho base e i0 size ht hi v n xs hs HO (by simpa using hx) ?_
    refine h v W ?_ HB (World.grownBy.refl _ _)
    simpa using HO
  | some ad =>
    have hlen : n + ys.length ≤ 140737488355328 := Nat.le_trans (Nat.le_mul_of_pos_right _ hb0) hl
    refine wpList_append_own_at W hgd s x t ho base e i0 z size bytes ht hi hz0 hz1 hz2 hz hs0 v n xs hs HO ad ys.length c (ys.flatMap enc) hx (flat_len hsz ys) (flat_cells hsz hs0 hrd)
      (fun u hu => by obtain ⟨x, _, hx⟩ := List.mem_flatMap.1 hu; exact h1 x u hx) (by simp only [maxLen]; omega) hl hbase ?_
    intro v1 w1 hown hg _ hat
    exact h v1 w1 hown (HB.grown hg hbase (own_base HO)) hg
/-- append(v, x), as app1, where the box's block is named otherwise. -/
theorem app1g {w0 W : World} (base : Nat) (hgd : o.guard = none) (s x : Operand) (t e : TypeId) (z : Value) (size bytes : Nat)
    (ho : o.op = .call { callee := .builtin .append, args := #[s, x], argTypes := #[t, t] })
    (ht : P.underlying t = some (.slice e)) (hinfo : (P.info? e).map (fun i => (i.zero, i.size, i.bytes)) = some (some z, size, bytes)) (hz : z.cells.size = size) (hs0 : 0 < size) (hb0 : 0 < bytes)
    (v : Value) (n : Nat) (xs cs : List Value) (hs : a.eval s = v) (g : Nat) (hx : a.eval x = .slice (some ⟨g, 0, none⟩) 1 1) (hcs : cs.length = size) (h1 : ∀ u ∈ cs, u.oneCell' = true)
    (HO : W.ownsRow base e size v n xs) (HB : Below base w0 W) (hbase : base ≤ W.heap.size) (hg : W.heap.size = g) (hl : (n + 1) * bytes ≤ 140737488355328)
    (h : ∀ v1 w1, w1.ownsRow base e size v1 (n + 1) (xs ++ cs) → Below base w0 w1 → W.grownBy w1 v.ownBlock → (v1.ownBlock = v.ownBlock ∨ ∃ b, v1.ownBlock = some b ∧ W.heap.size ≤ b) → wpList P ops Q rest (a.put o.dst v1) w1) :
    wpList P ops Q (o :: rest) a (W.alloc (.cells cs.toArray e)) := by
  subst hg
  exact app1 base hgd s x t e z size bytes ho ht hinfo hz hs0 hb0 v n xs cs hs hx hcs h1 HO HB hbase hl h
end
end Go.Proofs.YtccjcdecpgigpaaDoor.Base
