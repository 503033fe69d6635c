/- Replay's records in blocks of their own; rows that stay while another row grows. -/
import Derived.Test.YtjlihpbnhojdgaaTape
namespace Go.Proofs.Ytjlihpbnhojdgaa.Cell
open Go.RowKit Go.Proofs.Ytjlihpbnhojdgaa.Base
set_option linter.unusedVariables false
set_option linter.unusedSimpArgs false
set_option maxRecDepth 20000
theorem own_grown {B : Nat} {e : TypeId} {k : Nat} {v : Value} {n : Nat} {xs : List Value} {w w' : World} {row : Option Nat} (h : w.ownsRow B e k v n xs) (hg : w.grownBy w' row) (hr : ∀ z, row = some z → z < B) : w'.ownsRow B e k v n xs := by
  refine h.kept hg ?_
  cases hv : v.ownBlock with
  | none => exact .inl rfl
  | some g =>
    refine .inr fun e => ?_
    have h1 := (h.lt g hv).1
    have h2 := hr g e.symm
    omega
theorem OwS.grown {B : Nat} {w w' : World} {v : Value} {recs : List (List UInt32)} {row : Option Nat} (h : OwS B w v recs) (hg : w.grownBy w' row) (hr : ∀ z, row = some z → z < B) : OwS B w' v recs := by
  obtain ⟨vs, ho, hl, hx⟩ := h
  refine ⟨vs, own_grown ho hg hr, hl, fun i r hi => ?_⟩
  obtain ⟨g, c, h1, h2, ⟨h3, h4⟩, h5⟩ := hx i r hi
  exact ⟨g, c, h1, h2, ⟨h3, Nat.lt_of_lt_of_le h4 hg.size⟩, rd_grown h5 hg h4 (fun e => by have := hr g e.symm; omega)⟩
theorem replay_own (c : List UInt32) (l : List (List UInt32)) (A : Option Addr) (q : Nat) (w : World) (hc : RdE 1 encW w A c) (ht : Cell.Tape c l) (h0 : 1 ≤ c.length) (h1 : c.length ≤ 2048) (hq : c.length ≤ q) (hl : l.length ≤ 5000) :
    Calls Try.prog 35 #[.slice A c.length q] w fun e w' => ∃ B p, e = .returned (.tuple #[.slice B l.length p, .int .i64 ((encL l).length : Int), .int .i64 0]) ∧ OwS (w.heap.size + 1) w' (.slice B l.length p) l ∧ Below w.heap.size w w' := by
  have HW := Lib.hid (walk_keep c l A q w.heap.size (w.alloc (.cells #[.slice none 0 0] 66)) (fun W h => hc.below ((blw_alloc (Below.refl _ _) _).trans h)) ht h0 h1 hq (Cs.new rfl) hl)
  clear hc ht
  go_enter Try.func35, Try.ntmps35
  go_wp2_with (fail)
  go_at_call 55
  refine HW.out.mono ?_
  rintro e w1 ⟨rfl, v, hcs, hos, hb⟩
  obtain ⟨B, p, rfl, hrd⟩ := hos.read
  have HB := Lib.hid ((blw_alloc (Below.refl _ _) _).trans hb)
  have HRD := Lib.hid hos
  have c0 := (hcs.at 0 rfl).1
  clear hcs hos hb hrd
  go_wp2
  go_ret3
  exact ⟨B, p, rfl, HRD.out, HB.out⟩
section
variable {P : Program} {ops : Array Oper} {rest : List Oper} {o : Oper} {a : Act} {Q : Exit → Act → World → Prop}
/-- append(v, x) of one element, where the operation stands under a test that is true. -/
theorem app1G {W : World} (base : Nat) (hw : Region.wanted o (yielded ops a.tmps) = true) (s x : Operand) (t e : TypeId) (z : Value) (size bytes : Nat)
    (ho : o.op = .call { callee := .builtin .append, args := #[s, x], argTypes := #[t, t] })
    (ht : P.underlying t = some (.slice e)) (hinfo : (P.info? e).map (fun i => (i.zero, i.size, i.bytes)) = some (some z, size, bytes)) (hz : z.cells.size = size) (hs0 : 0 < size) (hb0 : 0 < bytes)
    (v : Value) (n : Nat) (xs cs : List Value) (hs : a.eval s = v) (hx : a.eval x = .slice (some ⟨W.heap.size, 0, none⟩) 1 1) (hcs : cs.length = size) (h1 : ∀ u ∈ cs, u.oneCell' = true)
    (HO : W.ownsRow base e size v n xs) (hbase : base ≤ W.heap.size) (hl : (n + 1) * bytes ≤ 140737488355328)
    (h : ∀ v1 w1, w1.ownsRow base e size v1 (n + 1) (xs ++ cs) → W.grownBy w1 v.ownBlock → (v1.ownBlock = v.ownBlock ∨ ∃ b, v1.ownBlock = some b ∧ W.heap.size ≤ b) → wpList P ops Q rest (a.put o.dst v1) w1) :
    wpList P ops Q (o :: rest) a (W.alloc (.cells cs.toArray e)) := by
  obtain ⟨i0, hi, hzz⟩ := Option.map_eq_some_iff.1 hinfo
  simp only [Prod.mk.injEq] at hzz
  obtain ⟨hz0, hz1, hz2⟩ := hzz
  have hlen : n + 1 ≤ 140737488355328 := Nat.le_trans (Nat.le_mul_of_pos_right _ hb0) hl
  refine wpList_step fun K hK => ?_
  rw [if_pos hw]
  obtain ⟨v', w', hr, h2, h3, h4, h5⟩ := run_append_own_at (P := P) (W.alloc (.cells cs.toArray e)) base t o.type e i0 z size bytes ht hi hz0 hz1 hz2 hz hs0 v n xs (HO.alloc _) ⟨W.heap.size, 0, none⟩ 1 1 cs (by rw [hcs]; omega)
    (fun j u hj => World.news_of_block (cs := cs.toArray) (t := e) (fr := (0, 0)) (MapKept.heap_alloc W _).1 j u (by simpa using hj)) h1 (by simp only [maxLen]; omega) hl (by simp; omega)
  unfold Oper.wp execOp
  simp only [ho, resolve, invoke, builtin, Sem.run_bind, Sem.run_pure, Result.andThen_ok, List.map_toArray, List.map_cons, List.map_nil, hs, hx, hr]
  refine hK _ _ (h v' w' h2 (World.grownBy.trans (World.grownBy_alloc W _ _) h3) ?_)
  rcases h5 with hat | hat
  · exact .inl hat
  · exact .inr ⟨_, hat, by simp⟩
end
end Go.Proofs.Ytjlihpbnhojdgaa.Cell
