/- Contracts and plain laws for PadPieces. -/
import Derived.Test.YthalkihhkkgkiaaDoorPad4
import Derived.Test.YthalkihhkkgkiaaDoorWPadScripts
namespace Go.Proofs.YthalkihhkkgkiaaDoor.Pad
open Go Go.RowKit Go.Proofs.YthalkihhkkgkiaaDoor.Base
set_option linter.unusedVariables false
set_option linter.unusedSimpArgs false
set_option maxRecDepth 20000
section
variable {P : Program} {ops : Array Oper} {rest : List Oper} {o : Oper} {a : Act} {Q : Exit → Act → World → Prop}
/-- append(v, ys...), and where the row then lies. -/
theorem appNh {α : Type} {enc : α → List Value} {w0 W : World} (base : Nat) (hgd : o.guard = none) (s x : Operand) (t e : TypeId) (z : Value) (size bytes : Nat)
    (ho : o.op = .call { callee := .builtin .append, args := #[s, x], argTypes := #[t, t] })
    (ht : P.underlying t = some (.slice e)) (hinfo : (P.info? e).map (fun i => (i.zero, i.size, i.bytes)) = some (some z, size, bytes)) (hz : z.cells.size = size) (hs0 : 0 < size) (hb0 : 0 < bytes)
    (v : Value) (n : Nat) (xs : List Value) (ys : List α) (A : Option Addr) (c : Nat) (hs : a.eval s = v) (hx : a.eval x = .slice A ys.length c) (hA : A = none → ys = [] ∧ c = 0)
    (hsz : ∀ x, (enc x).length = size) (hrd : RdE size enc W A ys) (h1 : ∀ x, ∀ u ∈ enc x, u.oneCell' = true)
    (HO : W.ownsRow base e size v n xs) (HB : Below base w0 W) (hbase : base ≤ W.heap.size) (hl : (n + ys.length) * bytes ≤ 140737488355328)
    (h : ∀ v1 w1, w1.ownsRow base e size v1 (n + ys.length) (xs ++ ys.flatMap enc) → Below base w0 w1 → W.grownBy w1 v.ownBlock → (v1.ownBlock = v.ownBlock ∨ ∃ b, v1.ownBlock = some b ∧ W.heap.size ≤ b) → wpList P ops Q rest (a.put o.dst v1) w1) :
    wpList P ops Q (o :: rest) a W := by
  obtain ⟨i0, hi, hzz⟩ := Option.map_eq_some_iff.1 hinfo
  simp only [Prod.mk.injEq] at hzz
  obtain ⟨hz0, hz1, hz2⟩ := hzz
  cases A with
  | none =>
    obtain ⟨rfl, rfl⟩ := hA rfl
    refine wpList_append_own_none hgd s x t ho base e i0 size ht hi v n xs hs HO (by simpa using hx) ?_
    refine h v W ?_ HB (World.grownBy.refl _ _) (.inl rfl)
    simpa using HO
  | some ad =>
    have hlen : n + ys.length ≤ 140737488355328 := Nat.le_trans (Nat.le_mul_of_pos_right _ hb0) hl
    refine wpList_append_own_at W hgd s x t ho base e i0 z size bytes ht hi hz0 hz1 hz2 hz hs0 v n xs hs HO ad ys.length c (ys.flatMap enc) hx (flat_len hsz ys) (flat_cells hsz hs0 hrd)
      (fun u hu => by obtain ⟨x, _, hx⟩ := List.mem_flatMap.1 hu; exact h1 x u hx) (by simp only [maxLen]; omega) hl hbase ?_
    intro v1 w1 hown hg _ hat
    refine h v1 w1 hown (HB.grown hg hbase (own_base HO)) hg ?_
    rcases hat with hat | hat
    · exact .inl hat
    · exact .inr ⟨_, hat, Nat.le_refl _⟩
end
theorem conv_all (F : List Int) (A : Option Addr) (q : Nat) (B : Nat) (W : World) (ho : OwC B W A q F) : (convert 34 9 (.slice A F.length q)).run Tryd.prog W = .ok (.string (runesBytes F)) W := by
  by_cases h0 : F = []
  · subst h0
    cases A with
    | none => exact run_convert_runes_nil (P := Tryd.prog) W 34 9 21 0 q Tryd.underlying34 Tryd.underlying21 Tryd.underlying9
    | some a => exact run_convert_runes (P := Tryd.prog) W 34 9 21 a 0 q [] (Nat.le_refl _) Tryd.underlying34 Tryd.underlying21 Tryd.underlying9 (fun j hj => by simp at hj)
  · exact PadScripts.conv_own F A q B W h0 ho
theorem bytes_join (a b : List Int) : runesBytes a ++ runesBytes b = runesBytes (a ++ b) := by
  apply bytes_ext
  rw [bytes_append, runesBytes_list, runesBytes_list, runesBytes_list, List.flatMap_append]
theorem bytes_seven (a : List Int) : runesBytes a ++ (⟨#[55, 35]⟩ : ByteArray) = runesBytes (a ++ [55, 35]) := by
  apply bytes_ext
  rw [bytes_append, runesBytes_list, runesBytes_list, List.flatMap_append]
  rfl
theorem chL_valid (l : List Int) : ∀ z ∈ chL l, Utf8.valid z = true := by
  intro z hz
  unfold chL at hz
  obtain ⟨x, _, rfl⟩ := List.mem_map.1 hz
  exact (chI_valid x).1
theorem chL_len (l : List Int) : (chL l).length ≤ 200 := by unfold chL; simp; omega
theorem chL_bd (l : List Int) : ∀ z ∈ chL l, 0 ≤ z ∧ z ≤ 1114111 := by
  intro z hz
  unfold chL at hz
  obtain ⟨x, _, rfl⟩ := List.mem_map.1 hz
  exact (chI_valid x).2
/-- A digit and an end are one entry more, whatever was keyed. -/
theorem keys_seven (q : Pd) (al : List En) (hq : q.ok) : ∃ e, keysP [55, 35] (q, al) = (⟨[], false⟩, al ++ [e]) := by
  obtain ⟨d, b⟩ := q
  by_cases hl : d.length = 30
  · have h1 : pressP ⟨d, b⟩ 55 = (⟨d, true⟩, none) := by
      unfold pressP
      rw [if_neg (by omega), if_neg (by omega), if_neg (by omega), if_pos (.inr hl)]
    refine ⟨⟨[], 3⟩, ?_⟩
    rw [keysP_cons, h1, keysP_cons]
    simp only
    have h2 : pressP ⟨d, true⟩ 35 = (⟨[], false⟩, some ⟨[], 3⟩) := by
      unfold pressP
      rw [if_neg (by omega), if_neg (by omega), if_pos rfl, if_pos rfl]
    rw [h2]
    rfl
  · have h1 : pressP ⟨d, b⟩ 55 = (⟨d ++ [55], b⟩, none) := press_digit d b 55 (by decide) (by have := hq.1; simp only at this; omega)
    cases b with
    | true =>
      refine ⟨⟨[], 3⟩, ?_⟩
      rw [keysP_cons, h1, keysP_cons]
      simp only
      have h2 : pressP ⟨d ++ [55], true⟩ 35 = (⟨[], false⟩, some ⟨[], 3⟩) := by
        unfold pressP
        rw [if_neg (by omega), if_neg (by omega), if_pos rfl, if_pos rfl]
      rw [h2]
      rfl
    | false =>
      refine ⟨⟨d ++ [55], 0⟩, ?_⟩
      rw [keysP_cons, h1, keysP_cons]
      simp only
      rw [press_end (d ++ [55]) (by simp)]
      rfl
theorem keysP_ok (rs : List Int) : ∀ (x : Pd × List En), x.1.ok → (keysP rs x).1.ok := by
  induction rs with
  | nil => intro x h; exact h
  | cons r rs ih => intro x h; exact ih (keyStep x r) (press_ok x.1 r h)
theorem ents_len (o : Option En) : (ents o).length ≤ 1 := by cases o <;> simp [ents]
theorem keysP_take (bs : List Int) (j : Nat) (r : Int) (h : bs[j]? = some r) (x : Pd × List En) (p : Pd) (g : List En) (hk : keysP (bs.take j) x = (p, g)) : keysP (bs.take (j + 1)) x = ((pressP p r).1, g ++ ents (pressP p r).2) := by
  rw [List.take_add_one, h, keysP_append, hk]
  show keysP [r] (p, g) = _
  rw [keysP_cons]
  cases (pressP p r).2 <;> simp [ents, keysP]
theorem keys_count (rs : List Int) : ∀ (x : Pd × List En), (keysP rs x).2.length ≤ x.2.length + rs.length := by
  induction rs with
  | nil => intro x; simp [keysP]
  | cons r rs ih =>
    intro x
    have h := ih (keyStep x r)
    have h2 : (keyStep x r).2.length ≤ x.2.length + 1 := by
      unfold keyStep
      cases (pressP x.1 r).2 <;> simp
    show (keysP rs (keyStep x r)).2.length ≤ _
    simp only [List.length_cons]
    omega
set_option maxHeartbeats 2000000 in
theorem same_entries (xs : List En) (A B : Option Addr) (c d : Nat) (w : World) (hx : RdE 2 En.enc w A xs) (hy : RdE 2 En.enc w B xs) :
    Calls Tryd.prog 13 #[.slice A xs.length c, .slice B xs.length d] w fun e w' => e = .returned (.bool true) ∧ Below w.heap.size w w' := by
  have hmx := hx.1
  have HX := Lib.hid hx
  have HY := Lib.hid hy
  clear hx hy
  have mixed : Tryd.prog.follows .mixedOrders = true := by kernel_rfl
  go_enter Tryd.func13, Tryd.ntmps13
  go_wp2_with fail
  go_loopw [5] (fun i wr => ∃ j : Nat, j ≤ xs.length ∧ i = .int .i64 j ∧ Below w.heap.size w wr) (fun i _ => xs.length - (intOf i).toNat)
  case atStart => exact ⟨0, by omega, rfl, Below.refl _ _⟩
  case round =>
    obtain ⟨j, hj, rfl, hb⟩ := hrel
    have HBr := Lib.hid hb
    clear hb
    by_cases hlt : j < xs.length
    · obtain ⟨a1, rfl, x0, x1⟩ := (HX.out.below HBr.out).at2 j hlt (.string (strOf xs[j].t)) (.int .i64 xs[j].c) rfl
      obtain ⟨a2, rfl, y0, y1⟩ := (HY.out.below HBr.out).at2 j hlt (.string (strOf xs[j].t)) (.int .i64 xs[j].c) rfl
      generalize strOf xs[j].t = st at *
      generalize xs[j].c = sc at *
      go_wp2_with fail
      go_region
      all_goals go_wp2_with fail
      exact ⟨⟨j + 1, by omega, rfl, Below.drew HBr.out⟩, by simp only [intOf]; omega⟩
    · obtain rfl : j = xs.length := by omega
      go_wp2_with fail
      go_ret
      exact ⟨rfl, HBr.out⟩
end Go.Proofs.YthalkihhkkgkiaaDoor.Pad
