/- Asks of the oracle: a raw ask opened, what asked gives, and that the pairs stay good behind Issue. -/
import Derived.Test.YtjopjlnnmhokfaaOrc2
import Derived.Test.YtjopjlnnmhokfaaOpenS
namespace Go.Proofs.Ytjopjlnnmhokfaa.Orc
open Go.RowKit Go.Proofs.Ytjopjlnnmhokfaa.Base Go.Maps
set_option linter.unusedVariables false
set_option linter.unusedSimpArgs false
set_option maxRecDepth 20000
structure Aq where
  a : Int
  b : Int
  c : Int
  d : Int
def Aq.ok (x : Aq) : Prop := i64 x.a ∧ i64 x.b ∧ i64 x.c ∧ i64 x.d
def Aq.enc (x : Aq) : List Value := [.int .i64 x.a, .int .i64 x.b, .int .i64 x.c, .int .i64 x.d]
open Go.ChangeShapes Go.WideShapes Go.ChangeAt in
theorem opens_ask {H : Type} {enc : TypeId × Value → H} {W : World} : Open.Opens enc Try.prog W 46 (fun (x : Aq) cs => cs = x.enc ∧ x.ok) := by
  refine Open.opens_struct Try.underlying46 fun cs hl hf => ?_
  rw [show Try.prog.cellsOf 46 = 4 by kernel_rfl] at hl
  match cs, hl with
  | [c0, c1, c2, c3], _ =>
    obtain ⟨x0, e0, f0⟩ := Open.fld hf 0 rfl 0 1 rfl rfl (by kernel_rfl) (Open.opens_int Try.underlying3)
    obtain ⟨x1, e1, f1⟩ := Open.fld hf 1 rfl 1 1 rfl rfl (by kernel_rfl) (Open.opens_int Try.underlying3)
    obtain ⟨x2, e2, f2⟩ := Open.fld hf 2 rfl 2 1 rfl rfl (by kernel_rfl) (Open.opens_int Try.underlying3)
    obtain ⟨x3, e3, f3⟩ := Open.fld hf 3 rfl 3 1 rfl rfl (by kernel_rfl) (Open.opens_int Try.underlying3)
    simp at e0 e1 e2 e3
    subst e0 e1 e2 e3
    exact ⟨⟨x0, x1, x2, x3⟩, rfl, i64_bound f0, i64_bound f1, i64_bound f2, i64_bound f3⟩

/-! ### the plain law -/
def In (m r b : Int) : Prop := (0 ≤ m ∧ m < 3) ∧ (0 ≤ r ∧ r < 3) ∧ 0 ≤ b ∧ b < 5
theorem In.wok {m r b : Int} (h : In m r b) : wok m r b = true := by
  obtain ⟨⟨a, b⟩, ⟨c, d⟩, e, f⟩ := h
  unfold Orc.wok
  exact decide_eq_true ⟨⟨by omega, by omega⟩, ⟨by omega, by omega⟩, by omega, by omega⟩
theorem In.i {m r b : Int} (h : In m r b) : i64 m ∧ i64 r ∧ i64 b := by
  obtain ⟨⟨a, b⟩, ⟨c, d⟩, e, f⟩ := h
  exact ⟨⟨by omega, by omega⟩, ⟨by omega, by omega⟩, by omega, by omega⟩
/-- What stands of the pairs from ask to ask. -/
structure Kept (ps : List Pr) (n : Nat) : Prop where
  good : Good ps
  ok : ∀ p ∈ ps, p.ok
  len : ps.length ≤ n
theorem Kept.nil : Kept [] 0 := ⟨⟨by simp, fun i p h => by simp at h⟩, by simp, by simp⟩
theorem tagL_le (ps : List Pr) (m r b : Int) (h : ∀ p ∈ ps, okP p = true) : 0 ≤ tagL ps m r b ∧ tagL ps m r b ≤ 65535 := by
  have key : ∀ (ps : List Pr) (t : Int), (∀ p ∈ ps, okP p = true) → (0 ≤ t ∧ t ≤ 65535) → 0 ≤ ps.foldl (fun t p => if same p m r b then p.t else t) t ∧ ps.foldl (fun t p => if same p m r b then p.t else t) t ≤ 65535 := by
    intro ps
    induction ps with
    | nil => intro t _ h; exact h
    | cons p ps ih =>
      intro t hp ht
      rw [List.foldl_cons]
      refine ih _ (fun q hq => hp q (List.mem_cons_of_mem _ hq)) ?_
      split
      · have := hp p List.mem_cons_self
        simp [okP] at this
        omega
      · exact ht
  exact key ps 0 h (by omega)
theorem Good.all {ps : List Pr} (h : Good ps) : ∀ p ∈ ps, okP p = true := by
  intro p hp
  obtain ⟨i, hi, rfl⟩ := List.mem_iff_getElem.mp hp
  have := h.2 i _ (List.getElem?_eq_getElem hi)
  simp [goodAt] at this
  exact this.1
theorem Kept.step {ps : List Pr} {n : Nat} (h : Kept ps n) (hn : n < 500) {m r b d : Int} (hw : wok m r b = true) (i0 : i64 m) (i1 : i64 r) (i2 : i64 b) (d0 : 0 ≤ d) (d1 : d ≤ 65535) : Kept (issL ps m r b d) (n + 1) := by
  unfold issL
  split
  · exact ⟨h.good, h.ok, Nat.le_succ_of_le h.len⟩
  · rename_i hh
    have hl := h.len
    refine ⟨⟨by simp; omega, ?_⟩, ?_, by simp; omega⟩
    · intro i p hp
      by_cases hi : i < ps.length
      · rw [List.getElem?_append_left hi] at hp
        have := h.good.2 i p hp
        unfold goodAt at this ⊢
        rwa [List.take_append_of_le_length (by omega)]
      · rw [List.getElem?_append_right (by omega)] at hp
        have h0 : i - ps.length = 0 := by
          rcases Nat.eq_zero_or_pos (i - ps.length) with h0 | h0
          · exact h0
          · rw [List.getElem?_eq_none (by simp; omega)] at hp; cases hp
        rw [h0] at hp
        simp at hp
        subst hp
        unfold goodAt okP
        obtain rfl : i = ps.length := by omega
        simp at hh ⊢
        exact ⟨⟨hw, d0, d1⟩, hh⟩
    · intro p hp
      rcases List.mem_append.mp hp with hp | hp
      · exact h.ok p hp
      · simp at hp
        subst hp
        exact ⟨⟨i0, i1⟩, i2, by unfold i64; dsimp only; omega⟩
theorem had_iss (ps : List Pr) (m r b d : Int) : had (issL ps m r b d) m r b = true := by
  unfold issL
  split
  · assumption
  · rw [had_snoc]; simp [same]
theorem tag_iss (ps : List Pr) (m r b d : Int) : tagL (issL ps m r b d) m r b = issT ps m r b d := by
  unfold issL issT
  split
  · rfl
  · rw [tagL_snoc]; simp [same]
theorem iss_again (ps : List Pr) (m r b d d' : Int) : issL (issL ps m r b d) m r b d' = issL ps m r b d ∧ issT (issL ps m r b d) m r b d' = issT ps m r b d := by
  constructor
  · rw [issL, if_pos (had_iss ps m r b d)]
  · rw [issT, if_pos (had_iss ps m r b d), tag_iss]
theorem iss_len (ps : List Pr) (m r b d : Int) : 0 < (issL ps m r b d).length ∧ (issL ps m r b d).length ≤ ps.length + 1 := by
  have h := had_iss ps m r b d
  constructor
  · cases hl : issL ps m r b d with
    | nil => rw [hl] at h; cases h
    | cons _ _ => simp
  · unfold issL
    split <;> simp

/-! ### the contracts -/
theorem OwPr.nil_of {base : Nat} {w : World} {A : Option Addr} {c : Nat} {xs : List Pr} (h : OwPr base w A c xs) : A = none → xs = [] ∧ c = 0 := by
  rintro rfl
  rcases h.2 with ⟨e, h0⟩ | ⟨g', cap', cur, e, _⟩
  · injection e with _ e1 e2
    exact ⟨List.length_eq_zero_iff.mp h0, e2⟩
  · cases e
theorem OwPr.after {base : Nat} {w w' : World} {A : Option Addr} {c : Nat} {xs : List Pr} (h : OwPr base w A c xs) (hb : Below w.heap.size w w') : OwPr base w' A c xs := own_after h hb
theorem asked_any (x : Aq) (w : World) (hk : x.ok) :
    Calls Try.prog 22 #[.agg #[.int .i64 x.a, .int .i64 x.b, .int .i64 x.c, .int .i64 x.d]] w fun e w' => e = .returned (.agg #[.int .i64 (pk x.a 3), .int .i64 (pk x.b 3), .int .i64 (pk x.c 5), .int .i64 (pk x.d 65536)]) ∧ Below w.heap.size w w' := by
  obtain ⟨⟨a0, a1⟩, ⟨b0, b1⟩, ⟨c0, c1⟩, d0, d1⟩ := hk
  obtain ⟨a, b, c, d⟩ := x
  simp only at a0 a1 b0 b1 c0 c1 d0 d1 ⊢
  go_enter Try.func22, Try.ntmps22
  go_wp2
  go_region_held3 (fun w' => w'.cell? ⟨w.heap.size, 0, none⟩ = some (.int .i64 a) ∧ w'.cell? ⟨w.heap.size, 1, none⟩ = some (.int .i64 b) ∧ w'.cell? ⟨w.heap.size, 2, none⟩ = some (.int .i64 c) ∧ w'.cell? ⟨w.heap.size, 3, none⟩ = some (.int .i64 d)) (go_keep) ((go_at_call 15; refine (picked_any _ _ _ (by omega) (by omega) (by omega)).mono ?_; rintro e w' ⟨rfl, rfl⟩))
  go_wp2
  refine bodyPost_ret (v := .agg #[.int .i64 (pk a 3), .int .i64 (pk b 3), .int .i64 (pk c 5), .int .i64 (pk d 65536)]) (by simp [results, Try.results22, go_sem]) rfl ⟨rfl, ?_⟩
  exact (blw_alloc (blw_alloc (Below.refl _ _) _) _).drew
theorem asked_in (x : Aq) : In (pk x.a 3) (pk x.b 3) (pk x.c 5) ∧ 0 ≤ pk x.d 65536 ∧ pk x.d 65536 ≤ 65535 := by
  obtain ⟨a0, a1⟩ := pk_bound x.a 3 (by omega)
  obtain ⟨b0, b1⟩ := pk_bound x.b 3 (by omega)
  obtain ⟨c0, c1⟩ := pk_bound x.c 5 (by omega)
  obtain ⟨d0, d1⟩ := pk_bound x.d 65536 (by omega)
  exact ⟨⟨⟨a0, a1⟩, ⟨b0, b1⟩, c0, c1⟩, d0, by omega⟩
end Go.Proofs.Ytjopjlnnmhokfaa.Orc
