/- The contract of debt.Recover. -/
import Derived.Test.YtfdgjaahmbjnpaaDebt2
namespace Go.Proofs.Ytfdgjaahmbjnpaa.Debt
open Go.RowKit Go.Proofs.Ytfdgjaahmbjnpaa.Base
set_option linter.unusedVariables false
set_option linter.unusedSimpArgs false
set_option maxRecDepth 20000

def recStep (share : Int) (st : List Db × Int) (d : Db) : List Db × Int :=
  if share - st.2 < d.a then (st.1 ++ [⟨d.a - (share - st.2), d.b⟩], share) else (st.1, st.2 + d.a)
def recL (share : Int) (xs : List Db) : List Db × Int := xs.foldl (recStep share) ([], 0)
theorem recL_snoc (share : Int) (xs : List Db) (d : Db) : recL share (xs ++ [d]) = recStep share (recL share xs) d := by
  unfold recL; rw [List.foldl_append]; rfl
theorem recL_inv (share : Int) (h0 : 0 ≤ share) (xs : List Db) : (∀ x ∈ xs, x.ok) → (0 ≤ (recL share xs).2 ∧ (recL share xs).2 ≤ share) ∧ (∀ x ∈ (recL share xs).1, x.ok ∧ 1 ≤ x.a) ∧ (recL share xs).1.length ≤ xs.length := by
  refine snoc_ind (P := fun xs => (∀ x ∈ xs, x.ok) → (0 ≤ (recL share xs).2 ∧ (recL share xs).2 ≤ share) ∧ (∀ x ∈ (recL share xs).1, x.ok ∧ 1 ≤ x.a) ∧ (recL share xs).1.length ≤ xs.length) ?_ ?_ xs
  · intro _
    simp [recL, h0]
  · intro l d ih hk
    obtain ⟨⟨p0, p1⟩, hx, hl⟩ := ih (fun x hx => hk x (List.mem_append_left _ hx))
    obtain ⟨⟨d0, d1⟩, d2, d3⟩ := hk d (by simp)
    rw [recL_snoc]
    unfold recStep
    split
    · refine ⟨⟨by simp; omega, by simp⟩, ?_, by simp; omega⟩
      intro x hm
      simp at hm
      rcases hm with h | h
      · exact hx x h
      · subst h
        unfold Db.ok
        simp only
        omega
    · exact ⟨⟨by simp; omega, by simp; omega⟩, hx, by simp; omega⟩

theorem own_set_new {w : World} {base : Nat} {e : TypeId} {size n : Nat} {v : Value} {xs : List Value} (h : w.ownsRow base e size v n xs) (o : Obj) (j : Nat) (u : Value) : ((w.alloc o).setCell ⟨w.heap.size, j, none⟩ u).ownsRow base e size v n xs := by
  refine h.kept (row := none) ⟨rfl, rfl, rfl, by simp, fun k hk _ => ?_⟩ ?_
  · rw [heap_setCell_other (w.alloc o) ⟨w.heap.size, j, none⟩ k u (by simp; omega)]
    exact (World.grownBy_alloc w o none).block k hk (by simp)
  · cases hv : v.ownBlock with
    | none => exact .inl rfl
    | some k => exact .inr (by simp)
theorem recover_any (xs : List Db) (tender bp : Int) (A : Option Addr) (c : Nat) (w : World) (hx : RdE 2 Db.enc w A xs) (hn : xs.length ≤ 8) (hk : ∀ x ∈ xs, x.ok) (t0 : 0 ≤ tender) (t1 : tender ≤ 100000000) (b0 : 0 ≤ bp) (b1 : bp ≤ 10000) :
    Calls Try.prog 20 #[.slice A xs.length c, .int .i64 tender, .int .i64 bp] w fun e w' => ∃ B q, e = .returned (.tuple #[.slice B (recL (tender * bp / 10000) xs).1.length q, .int .i64 (recL (tender * bp / 10000) xs).2, .int .i64 0]) ∧ OwDb w.heap.size w' B q (recL (tender * bp / 10000) xs).1 ∧ Below w.heap.size w w' := by
  have hm0 : 0 ≤ tender * bp := Int.mul_nonneg t0 b0
  have hm1 : tender * bp ≤ 1000000000000 := Int.le_trans (Int.mul_le_mul t1 b1 b0 (by decide)) (by decide)
  obtain ⟨share, hs⟩ : ∃ share, share = tender * bp / 10000 := ⟨_, rfl⟩
  have s0 : 0 ≤ share := by omega
  have s1 : share ≤ 100000000 := by omega
  have HS := Lib.hid hs
  rw [← hs]
  clear hs hm0 hm1
  have HX := Lib.hid hx
  have HK := Lib.hid hk
  clear hx hk
  go_enter Try.func20, Try.ntmps20
  go_wp2_with (first | (go_at_call 40; refine (fault_ok xs A c _ HX.out hn HK.out).mono ?_; rintro e w1 ⟨rfl, hb⟩; have HB1 := Lib.hid hb; clear hb) | (go_at_call 21; refine (part_any _ _ _ t0 (by omega) b0 b1).mono ?_; rintro e w' ⟨rfl, rfl⟩; rw [← HS.out]))
  go_loopw [12, 13, 36] (fun p v i wr => ∃ k : Nat, k ≤ xs.length ∧ i = .int .i64 k ∧ p = .int .i64 (recL share (xs.take k)).2 ∧ wr.ownsRow w.heap.size 122 2 v (recL share (xs.take k)).1.length ((recL share (xs.take k)).1.flatMap Db.enc) ∧ Below w.heap.size w wr) (fun _ _ i _ => xs.length - (intOf i).toNat)
  case atStart => exact ⟨0, by omega, rfl, rfl, World.ownsRow_nil _ _ _ _, HB1.out⟩
  case round =>
    obtain ⟨k, hk, rfl, rfl, ho, hb⟩ := hrel
    have HO := Lib.hid ho
    have HB := Lib.hid hb
    clear ho hb
    have hinv := recL_inv share s0 (xs.take k) (fun x hx => HK.out x (List.mem_of_mem_take hx))
    obtain ⟨⟨p0, p1⟩, hin, hln⟩ := hinv
    have HIN := Lib.hid hin
    have hln2 : (recL share (xs.take k)).1.length ≤ 8 := by simp at hln; omega
    clear hin hln
    by_cases hlt : k < xs.length
    · obtain ⟨ad, rfl, hc0, hc1⟩ := (HX.out.below HB.out).at2 k hlt _ _ rfl
      have hki : (k : Int) < (xs.length : Int) := by omega
      have hk0 : (0 : Int) ≤ (k : Int) := by omega
      obtain ⟨⟨x0, x1⟩, x2, x3⟩ := HK.out xs[k] (List.getElem_mem hlt)
      have hstep : recL share (xs.take (k + 1)) = recStep share (recL share (xs.take k)) xs[k] := by rw [List.take_succ_eq_append_getElem hlt, recL_snoc]
      have HST := Lib.hid hstep
      clear hstep
      obtain ⟨⟨out, p⟩, hr⟩ : ∃ st, st = recL share (xs.take k) := ⟨_, rfl⟩
      rw [← hr] at HO HST HIN hln2 p0 p1
      rw [← hr]
      simp only at HO HST HIN hln2 p0 p1 ⊢
      clear hr
      obtain ⟨B, q, rfl, ho⟩ := OwDb.of (xs := out) HO.out rfl rfl
      have HOb := Lib.hid ho
      have hsz := HB.out.size
      clear ho HO
      by_cases hcase : share - p < xs[k].a
      · have hgt : xs[k].a - (share - p) > 0 := by omega
        have hgt2 : 0 < xs[k].a - (share - p) := by omega
        have hst : recL share (xs.take (k + 1)) = (out ++ [⟨xs[k].a - (share - p), xs[k].b⟩], share) := by rw [HST.out]; unfold recStep; rw [if_pos hcase]
        have HST2 := Lib.hid hst
        clear hst
        go_wp2_with (at_builtin; refine app1g (w0 := w) w.heap.size rfl (.tmp 57) (.tmp 59) 51 122 (.agg #[.int .i64 0, .int .i64 0]) 2 16 rfl Try.underlying51 info_db rfl (by decide) (by decide) _ _ _ [.int .i64 (xs[k].a - (share - p)), .int .i64 xs[k].b] rfl _ rfl rfl ?c1 (World.ownsRow.alloc HOb.out _) (blw_alloc HB.out _) ?c5 ?c6 ?c2 ?_; (case c1 => simp [Value.oneCell']); (case c2 => omega); (case c5 => simp; omega); (case c6 => simp); intro v1 w1 ho1 hb1 _ _; have HO1 := Lib.hid ho1; have HB1 := Lib.hid hb1; clear ho1 hb1)
        go_roundw
        case rel =>
          refine ⟨k + 1, by omega, by go_num, ?_, ?_, HB1.out⟩
          · rw [HST2.out]
            show _ = Value.int .i64 share
            congr 1
            omega
          · rw [HST2.out]
            show w1.ownsRow _ _ _ _ (out ++ [_]).length ((out ++ [_]).flatMap Db.enc)
            rw [List.flatMap_append, List.length_append]
            exact HO1.out
        case measure => simp [intOf]; omega
      · have hst : recL share (xs.take (k + 1)) = (out, p + xs[k].a) := by rw [HST.out]; unfold recStep; rw [if_neg hcase]
        have HST2 := Lib.hid hst
        have hle : xs[k].a ≤ share - p := by omega
        clear hst
        go_wp2
        go_roundw
        case rel =>
          refine ⟨k + 1, by omega, by go_num, ?_, ?_, blw_alloc HB.out _⟩
          · rw [HST2.out]
          · rw [HST2.out]
            exact World.ownsRow.alloc HOb.out _
        case measure => simp [intOf]; omega
    · obtain rfl : k = xs.length := by omega
      rw [List.take_of_length_le (Nat.le_refl _)] at HO ⊢
      obtain ⟨B, q, rfl, ho⟩ := OwDb.of (xs := (recL share xs).1) HO.out rfl rfl
      have HOb := Lib.hid ho
      clear ho HO
      go_wp2
      go_ret3
      exact ⟨B, q, rfl, HOb.out, HB.out⟩
end Go.Proofs.Ytfdgjaahmbjnpaa.Debt
