/- The law of a range over a function whose iterator keeps state in a cell of its own (block F); the rounds are counted. -/
import Derived.Test.YtfdgjaahmbjnpaaBase
import Derived.RangeFuncNested
import Derived.RangeFuncBox
import Derived.RangeFuncBound
import Derived.RangeFuncCalls
import Derived.RangeFuncLeaves
import Derived.OwnWalkIn
import Derived.Sort.QuietIn
import Derived.TacticsInMore
import Derived.LoopNIn
import Derived.LoopIn
namespace Go.Proofs.Ytfdgjaahmbjnpaa.Rng
open Go.RowKit
set_option linter.unusedVariables false
set_option linter.unusedSimpArgs false
set_option maxRecDepth 20000
section
variable {F : Fence} {n : Nat} {P : Program} {ops : Array Oper} {C : World → Prop}
/-- A region that draws and only reads, in a round too: no operation of it is a defer statement. -/
theorem wpOp_round {i : Nat} {a : Act} {K : Act → Prop} {K' : Act → World → Prop} {Q' : Exit → Act → World → Prop} {w : World} (hd : ∀ (j : Nat) (o : Oper), ops[j]? = some o → ∀ c, o.op ≠ .defer c) (hC : C w) (h : ∀ a w', C w' → K a → K' a w')
    (hh : qOpIn F n P ops C i K a) : wpOpIn F n P ops Q' i K' a w := by
  unfold qOpIn at hh
  unfold wpOpIn
  split
  · rename_i ho
    simp only [ho] at hh
    exact h _ _ hC hh
  · rename_i o ho
    simp only [ho] at hh
    obtain ⟨ha, hh⟩ := hh
    split
    · rename_i hw
      simp only [hw, if_true] at hh
      obtain ⟨v, h1, h2⟩ := hh
      have h3 := h1 w hC
      unfold Oper.quietAtIn at h3
      unfold Oper.wpIn
      refine ⟨ha w hC, ?_⟩
      rw [Oper.semAt_plain F _ _ (hd i o ho)]
      generalize (execOp a.eval o).run P w = r at *
      cases r with
      | ok x w' =>
        cases x <;> simp only [Oper.quietUponIn] at h3 <;> simp only [Oper.uponIn]
        case value u =>
          obtain ⟨e1, e2⟩ := h3
          rw [e1, e2]
          exact h _ _ hC h2
        case skip =>
          obtain ⟨e1, e2⟩ := h3
          rw [e1, ← e2]
          exact h _ _ hC h2
        case enter f args =>
          obtain ⟨e1, hdp, hc⟩ := h3
          rw [e1]
          exact ⟨hdp, hc.mono fun e w'' ⟨he, hw''⟩ => by subst he; exact h _ _ hw'' h2⟩
      | halt x w' => simp only [Oper.quietUponIn] at h3
    · rename_i hw
      simp only [hw] at hh
      exact ⟨ha w hC, h _ _ hC hh⟩
theorem wpAny_round {md : Region.Mode} {Q : Act → Prop} {Q' : Exit → Act → World → Prop} (hd : ∀ (j : Nat) (o : Oper), ops[j]? = some o → ∀ c, o.op ≠ .defer c) (hQ : ∀ a w, C w → Q a → Q' .normal a w) : ∀ (fuel : Nat) (listed : Array Bool) (a : Act) (w : World), C w →
    wpAnyQIn F n P md ops C Q fuel listed a → wpAnyIn F n P md ops Q' fuel listed a w
  | 0, _, _, _, hw, h => ⟨h.1, hQ _ _ hw h.2⟩
  | fuel + 1, _, _, _, hw, h => ⟨fun h0 => hQ _ _ hw (h.1 h0), fun i hi => wpOp_round hd hw (fun a' w' hw' => wpAny_round hd hQ fuel _ a' w' hw') (h.2 i hi)⟩
theorem region_round {id : Nat} {Q : Exit → Act → World → Prop} {a : Act} {w : World} {l : List Oper} (hd : (l.all fun o => match o.op with | .defer _ => false | _ => true) = true) (hm : P.follows .mixedOrders = true) (hB : Region.lexB .any l.toArray = true)
    (h : wpQuietIn F n P l.toArray (fun w' => ∃ n, w' = w.drewN n) (fun a' => ∀ w', (∃ n, w' = w.drewN n) → Q .normal a' w') l a) : (Code.region id l.toArray true).wpIn F n P Q a w := by
  simp only [Region.lexB, Bool.and_eq_true] at hB
  refine wpIn_region_any hm (wpAny_round (C := fun w' => ∃ n, w' = w.drewN n) (Q := fun a' => ∀ w', (∃ n, w' = w.drewN n) → Q .normal a' w') ?_ (fun _ w' hw' h => h w' hw') _ _ _ _ ⟨1, rfl⟩ ?_)
  · intro j o ho c e
    have := List.all_eq_true.1 hd o (List.mem_of_getElem? (by simpa using ho))
    rw [e] at this
    cases this
  · have := wpAnyQIn_lex (F := F) (n := n) (C := fun w' => ∃ n, w' = w.drewN n) (md := .any) hB.1 l 0 (Array.replicate l.length false) a (by simp) (by simpa using hB.2) h
    simpa using this
end
/-- How a round's body may be left: J: the next round may come; X: by a jump. -/
def leftBy (Kp : World → World → Prop) (J : World → Prop) (X : Code → World → Prop) (W : World) : Exit → Act → World → Prop
  | .normal, _, W' => KeepsOthers W W' ∧ Kp W W' ∧ J W'
  | .ret, _, W' => KeepsOthers W W' ∧ X .ret W'
  | .exit id, _, W' => KeepsOthers W W' ∧ X (.exit id) W'
  | .goto t, _, W' => KeepsOthers W W' ∧ X (.goto t) W'
  | .panic _, _, _ => False
  | .outgrown, _, _ => False
/-- The iterator's word: N rounds, with these arguments; of the caller it knows that what holds between rounds abides new blocks and a turn of its own cell. -/
def Rounds (P : Program) (gf : Nat) (lb : Array Value) (N : Nat) (encs : Nat → Array Value) (F : Nat) (Kp : World → World → Prop) (w : World) : Prop :=
  ∀ (l : Nat) (J : Nat → World → Prop) (X : World → Prop) (W : World), Below w.heap.size w W →
    (∀ k A B row, J k A → A.grownBy B row → (row = none ∨ row = some F) → J k B) → J 0 W →
    (∀ k W1, J k W1 → k < N → YieldAt Fence.wide 0 P l (encs k) W1 fun e W' => (e = .returned (.bool true) ∧ J (k + 1) W' ∧ Kp W1 W') ∨ (e = .returned (.bool false) ∧ X W')) →
    CallsIn Fence.wide 0 P gf (#[.func (.yield l) #[] #[]] ++ lb) W fun e W' => (∃ v, e = .returned v) ∧ (J N W' ∨ X W')
theorem grown_same {A B : World} {row : Option Nat} (hg : A.grownBy B row) {i : Nat} {o : Obj} (h : A.heap[i]? = some o) (hne : row ≠ some i) : B.heap[i]? = some o :=
  (hg.block i (Array.getElem?_eq_some_iff.1 h).1 (fun e => hne e.symm)).trans h
theorem range_law {P : Program} {g : Operand} {ps : Array Tmp} {assign body : Code} {Q : Exit → Act → World → Prop} {a : Act} {w : World}
    {gf : Nat} {lb : Array Value} (hg : a.eval g = .func (.func gf) #[] lb) (eg : ∀ args w, (callFunc gf args).run P w = .ok (.enter gf args) w)
    {N : Nat} {encs : Nat → Array Value} {F : Nat} {Kp : World → World → Prop} (hit : Rounds P gf lb N encs F Kp w) (hF : F < w.heap.size) (hps : ∀ k, (encs k).size = ps.size)
    (hKt : ∀ {A B C : World}, Kp A B → Kp B C → Kp A C) (hKb : ∀ (W : World) (l : Nat) (o o' : Obj), w.heap.size ≤ l → W.heap[l]? = some o → o.isCells = false → Kp W (W.putObj l o'))
    (J : Nat → World → Prop) (X : Code → World → Prop) (a₁ : Nat → Act)
    (hJ : ∀ k A B row, J k A → A.grownBy B row → (∀ r, row = some r → r = F ∨ (w.heap.size ≤ r ∧ ∃ o : Obj, A.heap[r]? = some o ∧ o.isCells = false)) → J k B)
    (hX : ∀ c A B row, X c A → A.grownBy B row → (∀ r, row = some r → w.heap.size ≤ r ∧ ∃ o : Obj, A.heap[r]? = some o ∧ o.isCells = false) → X c B)
    (h0 : J 0 w)
    (hassign : ∀ (l k : Nat) (W : World) (K : Act → World → Prop), K (a₁ k) W →
      assign.wpIn (Fence.wide.inRound l) 0 P (Exit.then K (fun _ _ _ => False)) { tmps := (ps.zip (encs k)).foldl (fun t (p, v) => t.setIfInBounds p v) a.tmps, defers := [] } W)
    (hbody : ∀ (l k : Nat) (W : World), J k W → k < N → body.wpIn (Fence.wide.inRound l) 0 P (leftBy Kp (J (k + 1)) X W) (a₁ k) W)
    (hdone : ∀ (D : Nat) (W : World), w.heap.size ≤ D → J N W → W.heap[D]? = some (.deferred (some [])) → Q .normal { a with defers := { target := .collected D, args := #[] } :: a.defers } W)
    (hstop : ∀ (D : Nat) (c : Code) (W : World), w.heap.size ≤ D → X c W → W.heap[D]? = some (.deferred (some [])) → c.wpIn Fence.wide 0 P Q { a with defers := { target := .collected D, args := #[] } :: a.defers } W) :
    (Code.rangeFunc g ps assign body).wpIn Fence.wide 0 P Q a w := by
  refine wpIn_rangeFunc fun fn hfn => ?_
  have hs1 : (w.alloc (.deferred (some []))).heap.size = w.heap.size + 1 := World.size_alloc _ _
  obtain ⟨rec, hrec⟩ : ∃ rec : LoopState → Option Code → Loop, rec = fun st pe => { state := st, pending := pe, fn, tmps := a.tmps, params := ps, assign, body, defers := w.heap.size } := ⟨_, rfl⟩
  obtain ⟨W1, hW1⟩ : ∃ W1, (w.alloc (.deferred (some []))).alloc (.loop (rec .ready none)) = W1 := ⟨_, rfl⟩
  have hL : W1.heap[w.heap.size + 1]? = some (.loop (rec .ready none)) := by
    rw [← hW1, ← hs1]; exact World.alloc_heap_new _ _
  have hD : W1.heap[w.heap.size]? = some (.deferred (some [])) := by
    rw [← hW1]; exact (Below.heap_alloc _ _ _ (by simp)).trans (World.alloc_heap_new w _)
  have hJ1 : J 0 W1 := by
    rw [← hW1]
    exact hJ _ _ _ none (hJ _ _ _ none h0 (World.grownBy_alloc _ _ _) (by intro r e; cases e)) (World.grownBy_alloc _ _ _) (by intro r e; cases e)
  have hB : Below w.heap.size w W1 := by rw [← hW1]; exact Base.blw_alloc (Base.blw_alloc (Below.refl _ _) _) _
  have nl : ∀ o : Loop, (Obj.loop o).isCells = false := fun _ => rfl
  refine ⟨w.heap.size + 1, [{ target := .collected w.heap.size, args := #[] }], W1, { target := .fn (.func gf) lb, args := #[.func (.yield (w.heap.size + 1)) #[] #[]] }, W1, gf,
    #[.func (.yield (w.heap.size + 1)) #[] #[]] ++ lb, W1, ?_, ?_, fun _ _ => trivial, ?_, fun h => by simp [Fence.wide] at h, ?_⟩
  · rw [← hW1, hrec]; exact run_enterLoop_outer _ _ _ _ _
  · simp only [resolve, hg]
    simp [go_sem]
  · simp [invoke, go_sem, eg]
  · refine (hit (w.heap.size + 1) (fun k W => J k W ∧ W.heap[w.heap.size + 1]? = some (.loop (rec .ready none)) ∧ W.heap[w.heap.size]? = some (.deferred (some [])))
      (fun W => ∃ c, X c W ∧ W.heap[w.heap.size + 1]? = some (.loop (rec .done (some c))) ∧ W.heap[w.heap.size]? = some (.deferred (some []))) W1 hB ?_ ⟨hJ1, hL, hD⟩ ?_).mono ?_
    · rintro k A B row ⟨q1, q2, q3⟩ hgr hr
      refine ⟨hJ k A B row q1 hgr ?_, grown_same hgr q2 ?_, grown_same hgr q3 ?_⟩
      · rintro r rfl
        rcases hr with hr | hr <;> cases hr
        exact .inl rfl
      · rcases hr with rfl | rfl
        · simp
        · intro e; cases e; omega
      · rcases hr with rfl | rfl
        · simp
        · intro e; cases e; omega
    · rintro k W ⟨q1, q2, q3⟩ hk
      have hlt : w.heap.size + 1 < W.heap.size := (Array.getElem?_eq_some_iff.1 q2).1
      have hy := run_yield (P := P) (args := encs k) q2 (by rw [hrec]; exact hps k)
      rw [hrec] at hy
      refine ⟨fn, _, assign, body, hy, roundIn_of_wpIn hfn (hassign _ k W _ ⟨_, run_beginRound q2 (by rw [hrec]), ?_⟩)⟩
      obtain ⟨W2, hW2⟩ : ∃ W2, W.putObj (w.heap.size + 1) (.loop { rec .ready none with state := .busy }) = W2 := ⟨_, rfl⟩
      have l2 : W2.heap[w.heap.size + 1]? = some (.loop { rec .ready none with state := .busy }) := by rw [← hW2]; exact World.putObj_heap_same hlt
      have d2 : W2.heap[w.heap.size]? = some (.deferred (some [])) := by rw [← hW2]; exact (World.putObj_heap_other (by omega)).trans q3
      have k2 : Kp W W2 := by rw [← hW2]; exact hKb _ _ _ _ (by omega) q2 rfl
      have j2 : J k W2 := by
        rw [← hW2]
        exact hJ _ _ _ (some (w.heap.size + 1)) q1 (grownBy_putObj' _ _ _) (by intro r e; cases e; exact .inr ⟨by omega, _, q2, rfl⟩)
      rw [hW2]
      refine wpIn_mono (hbody _ k W2 j2 hk) ?_
      have fin : ∀ (jump : Option Code) (W3 : World), KeepsOthers W2 W3 → ∃ W4, W4 = W3.putObj (w.heap.size + 1) (.loop (rec (if jump.isNone then .ready else .done) jump)) ∧
          (Instr.endRound (w.heap.size + 1) jump).run P W3 = .ok (.bool jump.isNone) W4 ∧ W4.heap[w.heap.size + 1]? = some (.loop (rec (if jump.isNone then .ready else .done) jump)) ∧ W4.heap[w.heap.size]? = some (.deferred (some [])) ∧
          W3.grownBy W4 (some (w.heap.size + 1)) ∧ Kp W3 W4 ∧ ∃ o : Obj, W3.heap[w.heap.size + 1]? = some o ∧ o.isCells = false := by
        intro jump W3 hk3
        have l3 := hk3.same _ _ l2 rfl
        have lt3 := (Array.getElem?_eq_some_iff.1 l3).1
        have he := run_endRound (P := P) jump l3
        rw [hrec] at he ⊢
        refine ⟨_, rfl, he, World.putObj_heap_same lt3, (World.putObj_heap_other (by omega)).trans (hk3.same _ _ d2 rfl), grownBy_putObj' _ _ _, hKb _ _ _ _ (by omega) l3 rfl, _, l3, rfl⟩
      rintro e a3 W3 hp
      cases e with
      | normal =>
        obtain ⟨p1, p2, p3⟩ := hp
        obtain ⟨W4, rfl, hr, hl4, hd4, hg4, hk4, ho⟩ := fin none W3 p1
        exact ⟨_, _, hr, .inl ⟨rfl, ⟨hJ _ _ _ _ p3 hg4 (by intro r e; cases e; exact .inr ⟨by omega, ho⟩), hl4, hd4⟩, hKt (hKt k2 p2) hk4⟩⟩
      | ret =>
        obtain ⟨p1, p3⟩ := hp
        obtain ⟨W4, rfl, hr, hl4, hd4, hg4, hk4, ho⟩ := fin (some .ret) W3 p1
        exact ⟨_, _, hr, .inr ⟨rfl, .ret, hX _ _ _ _ p3 hg4 (by intro r e; cases e; exact ⟨by omega, ho⟩), hl4, hd4⟩⟩
      | exit id =>
        obtain ⟨p1, p3⟩ := hp
        obtain ⟨W4, rfl, hr, hl4, hd4, hg4, hk4, ho⟩ := fin (some (.exit id)) W3 p1
        exact ⟨_, _, hr, .inr ⟨rfl, .exit id, hX _ _ _ _ p3 hg4 (by intro r e; cases e; exact ⟨by omega, ho⟩), hl4, hd4⟩⟩
      | goto t =>
        obtain ⟨p1, p3⟩ := hp
        obtain ⟨W4, rfl, hr, hl4, hd4, hg4, hk4, ho⟩ := fin (some (.goto t)) W3 p1
        exact ⟨_, _, hr, .inr ⟨rfl, .goto t, hX _ _ _ _ p3 hg4 (by intro r e; cases e; exact ⟨by omega, ho⟩), hl4, hd4⟩⟩
      | panic ch => exact hp.elim
      | outgrown => exact hp.elim
    · rintro e W2 ⟨⟨v, rfl⟩, hh⟩
      rcases hh with ⟨q1, q2, q3⟩ | ⟨c, q1, q2, q3⟩
      · have he := run_endLoop (P := P) q2 (by rw [hrec]; simp)
        rw [hrec] at he
        exact ⟨none, _, he, hdone _ _ (Nat.le_refl _) (hJ _ _ _ _ q1 (grownBy_putObj' _ _ _) (by intro r e; cases e; exact .inr ⟨by omega, _, q2, rfl⟩)) ((World.putObj_heap_other (by omega)).trans q3)⟩
      · have he := run_endLoop (P := P) q2 (by rw [hrec]; simp)
        rw [hrec] at he
        exact ⟨some c, _, he, hstop _ c _ (Nat.le_refl _) (hX _ _ _ _ q1 (grownBy_putObj' _ _ _) (by intro r e; cases e; exact ⟨by omega, _, q2, rfl⟩)) ((World.putObj_heap_other (by omega)).trans q3)⟩
end Go.Proofs.Ytfdgjaahmbjnpaa.Rng
