/- Plain: the motions of a pentagon are a group; what a slip and a change of places do to the sum. -/
import Derived.Test.YtfdgjaahmbjnpaaDoorChk2
namespace Go.Proofs.YtfdgjaahmbjnpaaDoor.ChkP
open Go.RowKit Go.Proofs.YtfdgjaahmbjnpaaDoor.Base Go.Proofs.YtfdgjaahmbjnpaaDoor.Chk
set_option linter.unusedVariables false
set_option linter.unusedSimpArgs false
set_option maxRecDepth 20000
theorem assoc3 : ∀ a b c : Fin 10, thenI (thenI (a.val : Nat) (b.val : Nat)) (c.val : Nat) = thenI (a.val : Nat) (thenI (b.val : Nat) (c.val : Nat)) := by decide +kernel
theorem inv_r : ∀ a : Fin 10, thenI (a.val : Nat) (backI (a.val : Nat)) = 0 := by decide +kernel
theorem inv_l : ∀ a : Fin 10, thenI (backI (a.val : Nat)) (a.val : Nat) = 0 := by decide +kernel
theorem one_r : ∀ a : Fin 10, thenI (a.val : Nat) 0 = (a.val : Nat) := by decide +kernel
theorem one_l : ∀ a : Fin 10, thenI 0 (a.val : Nat) = (a.val : Nat) := by decide +kernel
theorem assocI (a b c : Int) (ha : dg a) (hb : dg b) (hc : dg c) : thenI (thenI a b) c = thenI a (thenI b c) :=
  dg_all (P := fun a => ∀ b, dg b → ∀ c, dg c → thenI (thenI a b) c = thenI a (thenI b c)) (fun i => dg_all (P := fun b => ∀ c, dg c → thenI (thenI _ b) c = thenI _ (thenI b c)) (fun j => dg_all (fun k => assoc3 i j k))) a ha b hb c hc
theorem inv_rI (a : Int) (ha : dg a) : thenI a (backI a) = 0 := dg_all (P := fun a => thenI a (backI a) = 0) inv_r a ha
theorem inv_lI (a : Int) (ha : dg a) : thenI (backI a) a = 0 := dg_all (P := fun a => thenI (backI a) a = 0) inv_l a ha
theorem one_rI (a : Int) (ha : dg a) : thenI a 0 = a := dg_all (P := fun a => thenI a 0 = a) one_r a ha
theorem one_lI (a : Int) (ha : dg a) : thenI 0 a = a := dg_all (P := fun a => thenI 0 a = a) one_l a ha
theorem dg0 : dg 0 := by unfold dg; decide
theorem cancel_l {a b c : Int} (ha : dg a) (hb : dg b) (hc : dg c) (h : thenI a b = thenI a c) : b = c := by
  have h1 : thenI (backI a) (thenI a b) = thenI (backI a) (thenI a c) := by rw [h]
  have hv := backI_dg a ha
  rwa [← assocI _ _ _ hv ha hb, ← assocI _ _ _ hv ha hc, inv_lI a ha, one_lI b hb, one_lI c hc] at h1
theorem cancel_r {a b c : Int} (ha : dg a) (hb : dg b) (hc : dg c) (h : thenI b a = thenI c a) : b = c := by
  have h1 : thenI (thenI b a) (backI a) = thenI (thenI c a) (backI a) := by rw [h]
  have hv := backI_dg a ha
  rwa [assocI _ _ _ hb ha hv, assocI _ _ _ hc ha hv, inv_rI a ha, one_rI b hb, one_rI c hc] at h1

/-- The motion that a digit makes at a place. -/
def mot (x : UInt8) (k : Nat) : Int := movedI ((x.toNat : Int) - 48) k
theorem mot_dg (x : UInt8) (k : Nat) (h : digB x = true) : dg (mot x k) := moved_dg _ _ (digB_dg x h)
theorem allR_then (l : List UInt8) : ∀ (c : Int) (k : Nat), dg c → (∀ x ∈ l, digB x = true) → allR c k l = thenI c (allR 0 k l) := by
  induction l with
  | nil => intro c k hc _; exact (one_rI c hc).symm
  | cons x l ih =>
    intro c k hc hl
    have hx : dg (mot x k) := mot_dg x k (hl x (by simp))
    have hl' : ∀ y ∈ l, digB y = true := fun y hy => hl y (by simp [hy])
    show allR (thenI c (mot x k)) (k + 1) l = thenI c (allR (thenI 0 (mot x k)) (k + 1) l)
    rw [ih _ _ (thenI_dg _ _ hc hx) hl', one_lI _ hx, ih (mot x k) _ hx hl']
    exact assocI _ _ _ hc hx (allR_dg _ _ _ dg0 hl')
theorem allR_append (a b : List UInt8) : ∀ (c : Int) (k : Nat), allR c k (a ++ b) = allR (allR c k a) (k + a.length) b := by
  induction a with
  | nil => intro c k; rfl
  | cons x a ih =>
    intro c k
    simp only [List.cons_append, allR, List.length_cons]
    rw [ih]
    congr 1
    omega
theorem it_inj : ∀ (p : Fin 8) (a b : Fin 10), itI p.val (a.val : Nat) = itI p.val (b.val : Nat) → a = b := by decide +kernel
theorem dig_fin (x : UInt8) (h : digB x = true) : ∃ a : Fin 10, (x.toNat : Int) - 48 = ((a.val : Nat) : Int) := by
  have := digB_dg x h
  unfold dg at this
  exact ⟨⟨((x.toNat : Int) - 48).toNat, by omega⟩, by simp; omega⟩
theorem mot_inj {x y : UInt8} {k : Nat} (hx : digB x = true) (hy : digB y = true) (h : mot x k = mot y k) : x = y := by
  obtain ⟨a, ha⟩ := dig_fin x hx
  obtain ⟨b, hb⟩ := dig_fin y hy
  unfold mot movedI at h
  rw [ha, hb] at h
  have := it_inj ⟨k % 8, Nat.mod_lt _ (by decide)⟩ a b h
  subst this
  exact UInt8.toNat_inj.1 (by omega)
/-- ONE WRONG DIGIT: another sum. -/
theorem sum_slip (a b : List UInt8) (x y : UInt8) (k : Nat) (ha : ∀ z ∈ a, digB z = true) (hb : ∀ z ∈ b, digB z = true) (hx : digB x = true) (hy : digB y = true) (hne : x ≠ y) :
    allR 0 k (a ++ [x] ++ b) ≠ allR 0 k (a ++ [y] ++ b) := by
  intro h
  rw [allR_append (a ++ [x]), allR_append (a ++ [y]), allR_snoc, allR_snoc] at h
  simp only [List.length_append, List.length_cons, List.length_nil] at h
  have hA := allR_dg a 0 k dg0 ha
  have hX := mot_dg x (k + a.length) hx
  have hY := mot_dg y (k + a.length) hy
  have h1 := allR_then b (thenI (allR 0 k a) (mot x (k + a.length))) (k + (a.length + 1)) (thenI_dg _ _ hA hX) hb
  have h2 := allR_then b (thenI (allR 0 k a) (mot y (k + a.length))) (k + (a.length + 1)) (thenI_dg _ _ hA hY) hb
  have h3 := (h1.symm.trans h).trans h2
  have hB := allR_dg b 0 (k + (a.length + 1)) dg0 hb
  exact hne (mot_inj hx hy (cancel_l hA hX hY (cancel_r hB (thenI_dg _ _ hA hX) (thenI_dg _ _ hA hY) h3)))
theorem it_swap : ∀ (p : Fin 8) (a b : Fin 10), thenI (itI p.val (a.val : Nat)) (itI ((p.val + 1) % 8) (b.val : Nat)) = thenI (itI p.val (b.val : Nat)) (itI ((p.val + 1) % 8) (a.val : Nat)) → a = b := by decide +kernel
/-- TWO UNLIKE NEIGHBOURS THAT CHANGE PLACES: another sum. -/
theorem sum_swap (a b : List UInt8) (x y : UInt8) (k : Nat) (ha : ∀ z ∈ a, digB z = true) (hb : ∀ z ∈ b, digB z = true) (hx : digB x = true) (hy : digB y = true) (hne : x ≠ y) :
    allR 0 k (a ++ [x] ++ [y] ++ b) ≠ allR 0 k (a ++ [y] ++ [x] ++ b) := by
  intro h
  rw [allR_append (a ++ [x] ++ [y]), allR_append (a ++ [y] ++ [x]), allR_snoc (a ++ [x]), allR_snoc (a ++ [y]), allR_snoc, allR_snoc] at h
  simp only [List.length_append, List.length_cons, List.length_nil] at h
  have hA := allR_dg a 0 k dg0 ha
  have hX := mot_dg x (k + a.length) hx
  have hY := mot_dg y (k + a.length) hy
  have hX' := mot_dg x (k + (a.length + 1)) hx
  have hY' := mot_dg y (k + (a.length + 1)) hy
  have c1 := thenI_dg _ _ (thenI_dg _ _ hA hX) hY'
  have c2 := thenI_dg _ _ (thenI_dg _ _ hA hY) hX'
  have h1 := allR_then b _ (k + (a.length + 1 + 1)) c1 hb
  have h2 := allR_then b _ (k + (a.length + 1 + 1)) c2 hb
  have h3 := (h1.symm.trans h).trans h2
  have hB := allR_dg b 0 (k + (a.length + 1 + 1)) dg0 hb
  have h4 := cancel_r hB c1 c2 h3
  rw [assocI _ _ _ hA hX hY', assocI _ _ _ hA hY hX'] at h4
  have h5 := cancel_l hA (thenI_dg _ _ hX hY') (thenI_dg _ _ hY hX') h4
  obtain ⟨p, hp⟩ := dig_fin x hx
  obtain ⟨q, hq⟩ := dig_fin y hy
  unfold mot movedI at h5
  rw [hp, hq] at h5
  have e : (k + (a.length + 1)) % 8 = ((k + a.length) % 8 + 1) % 8 := by omega
  rw [e] at h5
  have := it_swap ⟨(k + a.length) % 8, Nat.mod_lt _ (by decide)⟩ p q h5
  subst this
  exact hne (UInt8.toNat_inj.1 (by omega))
end Go.Proofs.YtfdgjaahmbjnpaaDoor.ChkP
