/- A deferred closure's region that draws its order: the law; which orders four operations may take. -/
import Derived.Recover
import Derived.Orders
import Derived.RegionTactic
import Derived.RowKit
namespace Go.Proofs.Ytjlihpbnhojdgaa.Rcv
open Go
theorem wpS_region_draw {P : Program} {Q : Exit → Act → List Frame → World → Prop} {a : Act} {cs : List Frame} {w : World} {id : Nat} {ops : Array Oper}
    (h : ∀ t, wpOpsS P ops Q (Region.schedule (P.follows .mixedOrders) ops t) a cs { w with drawn := w.drawn + 1 }) : (Code.region id ops true).wpS P Q a cs w :=
  fun b k hb hr => let ⟨e, a', cs', w', q, r⟩ := wp_opsS _ a cs _ (h _) b k hb hr; ⟨e, a', cs', w', q, .of_steps (.one step_region_draw) r⟩
/-- Which lists go may give, out of what is ready at each point. -/
theorem sched4 {ops : Array Oper} (hs : ops.size = 4) (r0 : Region.ready .any ops #[false, false, false, false] = [0, 1])
    (r1 : Region.ready .any ops #[true, false, false, false] = [1]) (r2 : Region.ready .any ops #[false, true, false, false] = [0])
    (r3 : Region.ready .any ops #[true, true, false, false] = [2]) (r4 : Region.ready .any ops #[true, true, true, false] = [3]) (t : Nat) :
    Region.schedule true ops t = [0, 1, 2, 3] ∨ Region.schedule true ops t = [1, 0, 2, 3] := by
  have g (f t : Nat) (l : Array Bool) (acc : List Nat) : Region.linearise.go .any ops (f + 1) t l acc = match (Region.ready .any ops l)[t % (Region.ready .any ops l).length]? with
      | some i => Region.linearise.go .any ops f (t / (Region.ready .any ops l).length) (l.setIfInBounds i true) (i :: acc)
      | none => acc.reverse := rfl
  have one (n : Nat) : n % 1 = 0 := Nat.mod_one n
  have hl : Region.schedule true ops t = Region.linearise.go .any ops 4 t #[false, false, false, false] [] := by
    unfold Region.schedule Region.linearise
    rw [hs]
    rfl
  rw [hl, g 3, r0]
  rcases Nat.mod_two_eq_zero_or_one t with h | h
  · left
    simp only [List.length_cons, List.length_nil, Nat.zero_add, Nat.reduceAdd, h, List.getElem?_cons_zero]
    rw [show (#[false, false, false, false] : Array Bool).setIfInBounds 0 true = #[true, false, false, false] from rfl, g 2, r1]
    simp only [List.length_cons, List.length_nil, Nat.zero_add, one, List.getElem?_cons_zero]
    rw [show (#[true, false, false, false] : Array Bool).setIfInBounds 1 true = #[true, true, false, false] from rfl, g 1, r3]
    simp only [List.length_cons, List.length_nil, Nat.zero_add, one, List.getElem?_cons_zero]
    rw [show (#[true, true, false, false] : Array Bool).setIfInBounds 2 true = #[true, true, true, false] from rfl, g 0, r4]
    simp only [List.length_cons, List.length_nil, Nat.zero_add, one, List.getElem?_cons_zero]
    rfl
  · right
    simp only [List.length_cons, List.length_nil, Nat.zero_add, Nat.reduceAdd, h, List.getElem?_cons_succ, List.getElem?_cons_zero]
    rw [show (#[false, false, false, false] : Array Bool).setIfInBounds 1 true = #[false, true, false, false] from rfl, g 2, r2]
    simp only [List.length_cons, List.length_nil, Nat.zero_add, one, List.getElem?_cons_zero]
    rw [show (#[false, true, false, false] : Array Bool).setIfInBounds 0 true = #[true, true, false, false] from rfl, g 1, r3]
    simp only [List.length_cons, List.length_nil, Nat.zero_add, one, List.getElem?_cons_zero]
    rw [show (#[true, true, false, false] : Array Bool).setIfInBounds 2 true = #[true, true, true, false] from rfl, g 0, r4]
    simp only [List.length_cons, List.length_nil, Nat.zero_add, one, List.getElem?_cons_zero]
    rfl
theorem wpS_region_draw4 {P : Program} {Q : Exit → Act → List Frame → World → Prop} {a : Act} {cs : List Frame} {w : World} {id : Nat} {ops : Array Oper} (hm : P.follows .mixedOrders = true)
    (hs : ops.size = 4) (r0 : Region.ready .any ops #[false, false, false, false] = [0, 1])
    (r1 : Region.ready .any ops #[true, false, false, false] = [1]) (r2 : Region.ready .any ops #[false, true, false, false] = [0])
    (r3 : Region.ready .any ops #[true, true, false, false] = [2]) (r4 : Region.ready .any ops #[true, true, true, false] = [3])
    (h1 : wpOpsS P ops Q [0, 1, 2, 3] a cs w.drew) (h2 : wpOpsS P ops Q [1, 0, 2, 3] a cs w.drew) : (Code.region id ops true).wpS P Q a cs w := by
  refine wpS_region_draw fun t => ?_
  rw [hm]
  rcases sched4 hs r0 r1 r2 r3 r4 t with h | h <;> rw [h] <;> assumption
end Go.Proofs.Ytjlihpbnhojdgaa.Rcv
