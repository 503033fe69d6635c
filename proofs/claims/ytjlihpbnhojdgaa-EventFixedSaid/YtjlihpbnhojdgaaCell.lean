/- Contracts of package cell (Apply, Diff) and of the laws' helpers some, sameWords. -/
import Derived.Test.YtjlihpbnhojdgaaBase
import Derived.Laws.CopyOwn
namespace Go.Proofs.Ytjlihpbnhojdgaa.Cell
open Go.RowKit Go.Proofs.Ytjlihpbnhojdgaa.Base
set_option linter.unusedVariables false
set_option linter.unusedSimpArgs false
set_option maxRecDepth 20000

theorem info_u32 : (Try.prog.info? 45).map (fun i => (i.zero, i.size, i.bytes)) = some (some (.int .u32 0), 1, 4) := by kernel_rfl

/-- A slice of words of the call's own. -/
def OwW (base : Nat) (w : World) (A : Option Addr) (c : Nat) (xs : List UInt32) : Prop := w.ownsRow base 45 1 (.slice A xs.length c) xs.length (xs.flatMap encW)
theorem OwW.read {base : Nat} {w : World} {A : Option Addr} {c : Nat} {xs : List UInt32} (h : OwW base w A c xs) : RdE 1 encW w A xs := by
  obtain ⟨A1, c1, he, hr⟩ := own_read (enc := encW) (fun _ => rfl) (by decide) h
  cases he
  exact hr

theorem OwW.of {base : Nat} {w : World} {v : Value} {n : Nat} {cs : List Value} {xs : List UInt32} (h : w.ownsRow base 45 1 v n cs) (hn : n = xs.length) (hc : cs = xs.flatMap encW) : ∃ A c, v = .slice A xs.length c ∧ OwW base w A c xs := by
  subst hn hc
  obtain ⟨A, c, rfl, _⟩ := own_read (enc := encW) (fun _ => rfl) (by decide) h
  exact ⟨A, c, rfl, h⟩

/-! ### sameWords -/
theorem same_any (xs ys : List UInt32) (A B : Option Addr) (c d : Nat) (w : World) (hx : RdE 1 encW w A xs) (hy : RdE 1 encW w B ys) :
    Calls Try.prog 21 #[.slice A xs.length c, .slice B ys.length d] w fun e w' => e = .returned (.bool (decide (xs = ys))) ∧ ∃ n, w' = w.drewN n := by
  have hmx := hx.1
  have HX := Lib.hid hx
  have HY := Lib.hid hy
  clear hx hy
  by_cases hl : xs.length = ys.length
  · have e1 : (xs.length != ys.length) = false := by simp [hl]
    have e2 : ((xs.length : Int) != (ys.length : Int)) = false := by simp [hl]
    have HL := Lib.hid hl
    clear hl
    go_enter Try.func21, Try.ntmps21
    go_wp2
    go_loopw [5] (fun i wr => ∃ k : Nat, k ≤ xs.length ∧ i = .int .i64 k ∧ xs.take k = ys.take k ∧ ∃ n, wr = w.drewN n) (fun i _ => xs.length - (intOf i).toNat)
    case atStart => exact ⟨0, by omega, rfl, rfl, 0, rfl⟩
    case round =>
      obtain ⟨k, hk, rfl, ht, dn, hdn⟩ := hrel
      have HT := Lib.hid ht
      have HB := Lib.hid (show Below w.heap.size w wr by rw [hdn]; exact blw_drewN w.heap.size w dn)
      have HD := Lib.hid hdn
      clear ht hdn
      by_cases hlt : k < xs.length
      · have hlt2 : k < ys.length := by have := HL.out; omega
        obtain ⟨ad, rfl, hc⟩ := (HX.out.below HB.out).at1 k hlt _ rfl
        obtain ⟨bd, rfl, hd⟩ := (HY.out.below HB.out).at1 k hlt2 _ rfl
        have hki : (k : Int) < (xs.length : Int) := by omega
        have hki2 : (k : Int) < (ys.length : Int) := by omega
        have hk0 : (0 : Int) ≤ (k : Int) := by omega
        by_cases he : xs[k] = ys[k]
        · have e3 : ((xs[k].toNat : Int) != (ys[k].toNat : Int)) = false := by simp [he]
          have HE := Lib.hid he
          clear he
          go_wp2
          go_quiet (fail)
          go_wp2
          go_roundw
          case rel => exact ⟨k + 1, by omega, by go_num, by rw [List.take_succ_eq_append_getElem hlt, List.take_succ_eq_append_getElem hlt2, HT.out, HE.out], by first | exact ⟨_, HD.out⟩ | exact ⟨_, by rw [HD.out, World.drewN_drewN]⟩⟩
          case measure => simp [intOf]; omega
        · have e3 : ((xs[k].toNat : Int) != (ys[k].toNat : Int)) = true := by
            rw [bne_iff_ne]; intro h; exact he (UInt32.toNat_inj.1 (by omega))
          have hne : decide (xs = ys) = false := by
            rw [decide_eq_false_iff_not]; intro h; subst h; exact he rfl
          have HN := Lib.hid hne
          clear he hne
          go_wp2
          go_quiet (fail)
          go_wp2
          go_ret
          exact ⟨ret_bool HN.out.symm, by first | exact ⟨_, HD.out⟩ | exact ⟨_, by rw [HD.out, World.drewN_drewN]⟩⟩
      · obtain rfl : k = xs.length := by omega
        have hy : decide (xs = ys) = true := by
          rw [decide_eq_true_iff]
          have h1 := HT.out
          have h2 := HL.out
          rw [List.take_of_length_le (by omega), List.take_of_length_le (by omega)] at h1
          exact h1
        have HY := Lib.hid hy
        clear hy
        go_wp2
        go_ret
        exact ⟨ret_bool HY.out.symm, by first | exact ⟨_, HD.out⟩ | exact ⟨_, by rw [HD.out, World.drewN_drewN]⟩⟩
  · have e1 : (xs.length != ys.length) = true := by simp [hl]
    have e2 : ((xs.length : Int) != (ys.length : Int)) = true := by rw [bne_iff_ne]; omega
    have hn : decide (xs = ys) = false := by rw [decide_eq_false_iff_not]; intro h; subst h; exact hl rfl
    have HN := Lib.hid hn
    clear hl hn
    go_enter Try.func21, Try.ntmps21
    go_wp2
    go_ret
    exact ⟨ret_bool HN.out.symm, 0, rfl⟩

/-! ### some -/
theorem same_q (xs ys : List UInt32) (A B : Option Addr) (c d : Nat) (w : World) (n : Nat) (hx : RdE 1 encW w A xs) (hy : RdE 1 encW w B ys) :
    Calls Try.prog 21 #[.slice A xs.length c, .slice B ys.length d] (w.drewN n) fun e w' => e = .returned (.bool (decide (xs = ys))) ∧ ∃ m, w' = w.drewN m :=
  (same_any xs ys A B c d (w.drewN n) (hx.below (blw_drewN _ _ _)) (hy.below (blw_drewN _ _ _))).mono fun e w' ⟨he, m, hm⟩ => ⟨he, _, hm.trans (World.drewN_drewN _ _ _)⟩
theorem same_qT (xs ys : List UInt32) (A B : Option Addr) (c d : Nat) (w : World) (n : Nat) (hx : RdE 1 encW w A xs) (hy : RdE 1 encW w B ys) (h : xs = ys) :
    Calls Try.prog 21 #[.slice A xs.length c, .slice B ys.length d] (w.drewN n) fun e w' => e = .returned (.bool true) ∧ ∃ m, w' = w.drewN m := by
  have := same_q xs ys A B c d w n hx hy
  rwa [decide_eq_true h] at this

def someL (l : List UInt32) (most : Nat) : List UInt32 := if l.take most = [] then [0] else l.take most
theorem some_any (l : List UInt32) (most : Nat) (m : Int) (A : Option Addr) (c : Nat) (w : World) (hr : RdE 1 encW w A l) (hm : m = (most : Int)) (hmost : most ≤ 140737488351232) (hl : l.length * 4 ≤ 140737488351232) :
    Calls Try.prog 20 #[.slice A l.length c, .int .i64 m] w fun e w' => ∃ B d, e = .returned (.slice B (someL l most).length d) ∧ OwW w.heap.size w' B d (someL l most) ∧ Below w.heap.size w w' := by
  subst hm
  have HR := Lib.hid hr
  clear hr
  go_enter Try.func20, Try.ntmps20
  go_wp2
  go_loopw [5, 6] (fun b i wr => ∃ k : Nat, k ≤ l.length ∧ k ≤ most ∧ i = .int .i64 k ∧ wr.ownsRow w.heap.size 45 1 b (l.take k).length ((l.take k).flatMap encW) ∧ Below w.heap.size w wr) (fun _ i _ => l.length - (intOf i).toNat)
  case atStart => exact ⟨0, by omega, by omega, rfl, World.ownsRow_nil _ _ _ _, Below.refl _ _⟩
  case round =>
    obtain ⟨k, hk, hkm, rfl, hown0, hb0⟩ := hrel
    have HO := Lib.hid hown0
    have HB := Lib.hid hb0
    clear hown0 hb0
    by_cases hlt : k < l.length ∧ k < most
    · obtain ⟨h1, h2⟩ := hlt
      obtain ⟨ad, rfl, hc⟩ := (HR.out.below HB.out).at1 k h1 _ rfl
      have hs := Lib.hid (List.take_succ_eq_append_getElem h1)
      have hln : (l.take k).length ≤ k := by simp; omega
      go_wp2_with (at_builtin; refine app1 (w0 := w) w.heap.size rfl (.tmp 18) (.tmp 23) 36 45 (.int .u32 0) 1 4 rfl Try.underlying36 info_u32 rfl (by decide) (by decide) _ _ _ [.int .u32 (l[k].toNat : Int)] rfl rfl rfl ?c1 HO.out HB.out HB.out.size ?c2 ?_; (case c1 => intro u hu; simp at hu; subst hu; rfl); (case c2 => omega); intro v1 w1 ho1 hb1 _ _)
      go_roundw
      case rel =>
        refine ⟨k + 1, by omega, by omega, by go_num, ?_, hb1⟩
        rw [hs.out, List.flatMap_append, List.length_append]
        exact ho1
      case measure => simp [intOf]; omega
    · obtain ⟨A1, c1, rfl, hrd⟩ := own_read (enc := encW) (fun _ => rfl) (by decide) HO.out
      have hl' : l.take k = l.take most := by
        rcases Nat.lt_or_ge k l.length with h | h
        · have : k = most := by omega
          rw [this]
        · rw [List.take_of_length_le (by omega), List.take_of_length_le (by omega)]
      have HL := Lib.hid hl'
      have hTl : (l.take k).length ≤ l.length := by simp; omega
      clear hl' hrd
      generalize l.take k = T at HO HL hTl ⊢
      by_cases h0 : T.length = 0
      · have hnil : T = [] := List.eq_nil_of_length_eq_zero h0
        have e1 : ((T.length : Int) == 0) = true := by rw [h0]; rfl
        have hsome : someL l most = [0] := by unfold someL; rw [← HL.out, if_pos hnil]
        have HS := Lib.hid hsome
        have hz : wr.ownsRow w.heap.size 45 1 (.slice A1 T.length c1) 0 [] := by
          have := HO.out
          rw [hnil] at this ⊢
          exact this
        have HZ := Lib.hid hz
        clear hsome hz h0
        by_cases hlt1 : k < l.length
        all_goals
          go_wp2_with (at_builtin; refine app1 (w0 := w) w.heap.size rfl (.tmp 28) (.tmp 29) 36 45 (.int .u32 0) 1 4 rfl Try.underlying36 info_u32 rfl (by decide) (by decide) _ _ _ [.int .u32 0] rfl rfl rfl ?c3 HZ.out HB.out HB.out.size ?c4 ?_; (case c3 => intro u hu; simp at hu; subst hu; rfl); (case c4 => omega); intro v1 w1 ho1 hb1 _ _)
          go_ret
          obtain ⟨B, d, hv, ho⟩ := OwW.of (xs := [0]) ho1 rfl rfl
          subst hv
          refine ⟨B, d, ?_, ?_, hb1⟩
          · rw [HS.out]; rfl
          · rw [HS.out]; exact ho
      · have e1 : ((T.length : Int) == 0) = false := beq_eq_false_iff_ne.mpr (by omega)
        have e2 : ¬ T = [] := fun h => h0 (by rw [h]; rfl)
        have hsome : someL l most = T := by unfold someL; rw [← HL.out, if_neg e2]
        have HS := Lib.hid hsome
        clear hsome h0 e2
        by_cases hlt1 : k < l.length
        all_goals
          go_wp2
          go_ret
          refine ⟨A1, c1, ?_, ?_, HB.out⟩
          · rw [HS.out]; rfl
          · rw [HS.out]; exact HO.out

/-! ### Apply -/
theorem info_wr : (Try.prog.info? 89).map (fun i => (i.zero, i.size, i.bytes)) = some (some (.agg #[.int .i64 0, .int .u32 0]), 2, 16) := by kernel_rfl
structure Wr where
  at_ : Nat
  word : UInt32
def Wr.enc (x : Wr) : List Value := [.int .i64 (x.at_ : Int), .int .u32 (x.word.toNat : Int)]
def OwWr (base : Nat) (w : World) (A : Option Addr) (c : Nat) (xs : List Wr) : Prop := w.ownsRow base 89 2 (.slice A xs.length c) xs.length (xs.flatMap Wr.enc)
theorem OwWr.read {base : Nat} {w : World} {A : Option Addr} {c : Nat} {xs : List Wr} (h : OwWr base w A c xs) : RdE 2 Wr.enc w A xs := by
  obtain ⟨A1, c1, he, hr⟩ := own_read (enc := Wr.enc) (fun _ => rfl) (by decide) h
  cases he
  exact hr
theorem OwWr.of {base : Nat} {w : World} {v : Value} {n : Nat} {cs : List Value} {xs : List Wr} (h : w.ownsRow base 89 2 v n cs) (hn : n = xs.length) (hc : cs = xs.flatMap Wr.enc) : ∃ A c, v = .slice A xs.length c ∧ OwWr base w A c xs := by
  subst hn hc
  obtain ⟨A, c, rfl, _⟩ := own_read (enc := Wr.enc) (fun _ => rfl) (by decide) h
  exact ⟨A, c, rfl, h⟩
def applyL (c : List UInt32) (ws : List Wr) : List UInt32 := ws.foldl (fun c x => c.set x.at_ x.word) c
theorem applyL_len (ws : List Wr) : ∀ c, (applyL c ws).length = c.length := by
  induction ws with
  | nil => intro c; rfl
  | cons x ws ih => intro c; show (applyL (c.set x.at_ x.word) ws).length = _; rw [ih]; simp
theorem applyL_snoc (c : List UInt32) (ws : List Wr) (x : Wr) : applyL c (ws ++ [x]) = (applyL c ws).set x.at_ x.word := by
  unfold applyL; rw [List.foldl_append]; rfl

theorem fits_yes (xs : List UInt32) (A : Option Addr) (c : Nat) (w : World) (h0 : 1 ≤ xs.length) (h1 : xs.length ≤ 2048) :
    Calls Try.prog 64 #[.slice A xs.length c] w fun e w' => e = .returned (.bool true) ∧ w = w' := by
  have e1 : (1 : Int) ≤ (xs.length : Int) := by omega
  have e2 : (xs.length : Int) ≤ 2048 := by omega
  go_enter Try.func64, Try.ntmps64
  go_wp2
  go_ret
  exact ⟨rfl, rfl⟩
/-- The closure of Apply: is a write's place not there? -/
theorem outside_no (x : Wr) (b o : Nat) (A : Option Addr) (n c : Nat) (w : World) (hx : x.at_ < n) (hcell : w.cell? ⟨b, o, none⟩ = some (.slice A n c)) (hb : b < w.heap.size) :
    Calls Try.prog 66 #[.agg #[.int .i64 (x.at_ : Int), .int .u32 (x.word.toNat : Int)], .pointer (some ⟨b, o, none⟩)] w fun e w' => e = .returned (.bool false) ∧ Below w.heap.size w w' := by
  have e1 : decide ((x.at_ : Int) < 0) = false := decide_eq_false (by omega)
  have e2 : decide (n ≤ x.at_) = false := decide_eq_false (by omega)
  have hne : b ≠ w.heap.size := by omega
  go_enter Try.func66, Try.ntmps66
  go_wp2
  go_ret
  exact ⟨ret_bool (by simp [e1, e2]), blw_alloc (Below.refl _ _) _⟩

theorem index_none (ws : List Wr) (n b o : Nat) (L A : Option Addr) (d c : Nat) (w : World) (hws : RdE 2 Wr.enc w L ws) (hin : ∀ x ∈ ws, x.at_ < n) (hcell : w.cell? ⟨b, o, none⟩ = some (.slice A n c)) :
    Calls Try.prog 73 #[.slice L ws.length d, .func (.func 66) #[] #[.pointer (some ⟨b, o, none⟩)]] w fun e w' => e = .returned (.int .i64 (-1)) ∧ Below w.heap.size w w' := by
  have hmx := hws.1
  have hb : b < w.heap.size := World.block_lt_of_cell? w _ hcell
  have HW := Lib.hid hws
  have HI := Lib.hid hin
  have HC := Lib.hid hcell
  clear hws hin hcell
  go_enter Try.func73, Try.ntmps73
  go_wp2
  go_loopw [8] (fun i wr => ∃ k : Nat, k ≤ ws.length ∧ i = .int .i64 k ∧ Below w.heap.size w wr) (fun i _ => ws.length - (intOf i).toNat)
  case atStart => exact ⟨0, by omega, rfl, Below.refl _ _⟩
  case round =>
    obtain ⟨k, hk, rfl, hbl⟩ := hrel
    have HB := Lib.hid hbl
    have hsz := hbl.size
    clear hbl
    by_cases hlt : k < ws.length
    · obtain ⟨ad, rfl, hc0, hc1⟩ := (HW.out.below HB.out).at2 k hlt _ _ rfl
      have hcw : wr.cell? ⟨b, o, none⟩ = some (.slice A n c) := (HB.out.cell hb).trans HC.out
      have HCW := Lib.hid hcw
      have hat := HI.out ws[k] (List.getElem_mem hlt)
      clear hcw
      go_wp2_with (go_at_call 66; refine (outside_no ws[k] b o A n c _ hat HCW.out (by omega)).mono ?_; rintro e w1 ⟨rfl, hb1⟩; have HB1 := Lib.hid hb1; clear hb1)
      go_roundw
      case rel => exact ⟨k + 1, by omega, by go_num, below_then HB.out hsz HB1.out⟩
      case measure => simp [intOf]; omega
    · obtain rfl : k = ws.length := by omega
      go_wp2
      go_ret
      exact ⟨rfl, HB.out⟩
theorem contains_no (ws : List Wr) (n b o : Nat) (L A : Option Addr) (d c : Nat) (w : World) (hws : RdE 2 Wr.enc w L ws) (hin : ∀ x ∈ ws, x.at_ < n) (hcell : w.cell? ⟨b, o, none⟩ = some (.slice A n c)) :
    Calls Try.prog 65 #[.slice L ws.length d, .func (.func 66) #[] #[.pointer (some ⟨b, o, none⟩)]] w fun e w' => e = .returned (.bool false) ∧ Below w.heap.size w w' := by
  have H := Lib.hid (fun w' => index_none ws n b o L A d c w')
  have HW := Lib.hid hws
  have HI := Lib.hid hin
  have HC := Lib.hid hcell
  clear hws hin hcell
  go_enter Try.func65, Try.ntmps65
  go_wp2_with (go_at_call 73; refine (H.out _ HW.out HI.out HC.out).mono ?_; rintro e w1 ⟨rfl, hb1⟩; have HB1 := Lib.hid hb1; clear hb1)
  go_ret
  exact ⟨rfl, HB1.out⟩

/-! a row of the call's own that fills its block -/
theorem own_full {w : World} {base g n : Nat} {e : TypeId} {xs : List Value} (h : w.ownsRow base e 1 (.slice (some ⟨g, 0, none⟩) n n) n xs) : w.heap[g]? = some (.cells xs.toArray e (0, 0)) := by
  rcases h.2 with ⟨h', _⟩ | ⟨g', cap', cur, h', _, hg, _, _, hcs, htake⟩
  · simp at h'
  · simp only [Value.slice.injEq, Option.some.injEq, Addr.mk.injEq, and_true, true_and] at h'
    obtain ⟨rfl, rfl⟩ := h'
    rw [hg]
    have : cur.toList.take (n * 1) = cur.toList := List.take_of_length_le (by rw [Array.length_toList, hcs]; exact Nat.le_refl _)
    rw [this] at htake
    rw [← htake]
theorem own_of_full {w : World} {base g n : Nat} {e : TypeId} {xs : List Value} (h : w.heap[g]? = some (.cells xs.toArray e (0, 0))) (hb : base ≤ g) (hn : xs.length = n) (hm : n ≤ maxLen) : w.ownsRow base e 1 (.slice (some ⟨g, 0, none⟩) n n) n xs :=
  ⟨by omega, .inr ⟨g, n, xs.toArray, rfl, hb, h, Nat.le_refl _, hm, by simp [hn], List.take_of_length_le (by simp [hn])⟩⟩

theorem info_size : (Try.prog.info? 45).map (·.size) = some 1 := by kernel_rfl
theorem len_flat (xs : List UInt32) : (xs.flatMap encW).length = xs.length := by
  induction xs with
  | nil => rfl
  | cons x xs ih => simp [List.flatMap_cons, encW] at ih ⊢; omega
theorem flat_at (xs : List UInt32) (j : Nat) : (xs.flatMap encW)[j]? = (xs[j]?).map fun x => Value.int .u32 (x.toNat : Int) := by
  induction xs generalizing j with
  | nil => simp
  | cons x xs ih =>
    cases j with
    | zero => simp [encW]
    | succ j => simp only [List.flatMap_cons, encW, List.cons_append, List.nil_append, List.getElem?_cons_succ]; exact ih j
theorem one_flat (xs : List UInt32) : ∀ v ∈ xs.flatMap encW, v.oneCell' = true := by
  intro v hv
  obtain ⟨x, _, hx⟩ := List.mem_flatMap.1 hv
  simp [encW] at hx
  subst hx
  rfl
theorem cells_flat {w : World} {ad : Addr} {xs : List UInt32} (h : RdE 1 encW w (some ad) xs) : ∀ j v, (xs.flatMap encW)[j]? = some v → w.cell? (ad.add j) = some v := by
  intro j v hj
  rw [flat_at] at hj
  cases hx : xs[j]? with
  | none => rw [hx] at hj; simp at hj
  | some x =>
    rw [hx] at hj
    simp at hj
    subst hj
    obtain ⟨ad', e, hc⟩ := h.2 (by intro hn; subst hn; simp at hx)
    cases e
    simpa using hc j x hx 0 _ rfl
section
variable {P : Program} {ops : Array Oper} {rest : List Oper} {o : Oper} {a : Act} {Q : Exit → Act → World → Prop} {w : World}
/-- copy(d, s): d a row of the call's own that fills its block, s as long. -/
theorem copy_all (hgd : o.guard = none) (d s : Operand) (dT sT : TypeId) (ho : o.op = .call { callee := .builtin .copy, args := #[d, s], argTypes := #[dT, sT] }) (elem : TypeId) (hu : P.underlying dT = some (.slice elem)) (hsz : (P.info? elem).map (·.size) = some 1)
    (w0 : World) (base g n sCap : Nat) (ad : Addr) (hd : a.eval d = .slice (some ⟨g, 0, none⟩) n n) (hs : a.eval s = .slice (some ad) n sCap) (cur cs : List Value)
    (hown : w.ownsRow base elem 1 (.slice (some ⟨g, 0, none⟩) n n) n cur) (hn : cs.length = n) (hsrc : ∀ j v, cs[j]? = some v → w.cell? (ad.add j) = some v) (h1 : ∀ v ∈ cs, v.oneCell' = true) (HB : Below base w0 w)
    (h : ∀ w3, w3.ownsRow base elem 1 (.slice (some ⟨g, 0, none⟩) n n) n cs → Below base w0 w3 → wpList P ops Q rest (a.put o.dst (goInt n)) w3) : wpList P ops Q (o :: rest) a w := by
  have hblk := own_full hown
  have hcur : cur.length = n := by have := hown.1; omega
  have hbg : base ≤ g := (hown.lt g (by simp [Value.ownBlock])).1
  have hm : n ≤ maxLen := by
    rcases hown.2 with ⟨h', _⟩ | ⟨g', cap', cur', h', _, _, _, hm, _⟩
    · simp at h'
    · simp only [Value.slice.injEq] at h'
      omega
  refine wpList_copy_own hgd d s dT sT ho elem hu hsz g 0 n n ad n sCap hd hs cur.toArray elem hblk cs (by simp [hn]) hsrc (by simp; omega) h1 ?_
  have e : (cur.toArray.toList.take 0 ++ (cs ++ cur.toArray.toList.drop (0 + cs.length))).toArray = cs.toArray := by
    rw [List.drop_eq_nil_of_le (by simp; omega)]; simp
  rw [e, hn]
  refine h _ (own_of_full ?_ hbg hn hm) (below_setRow HB hbg _)
  simp [World.setRow, Array.getElem?_modify, hblk]
end

theorem flat_set (xs : List UInt32) (i : Nat) (x : UInt32) : (xs.flatMap encW).set i (.int .u32 (x.toNat : Int)) = (xs.set i x).flatMap encW := by
  induction xs generalizing i with
  | nil => simp
  | cons y ys ih =>
    cases i with
    | zero => simp [encW]
    | succ i => simp only [List.flatMap_cons, encW, List.cons_append, List.nil_append, List.set_cons_succ]; rw [ih]

theorem apply_any (cw : List UInt32) (ws : List Wr) (k : Nat) (ki : Int) (A L : Option Addr) (c d : Nat) (w : World) (hc : RdE 1 encW w A cw) (hws : RdE 2 Wr.enc w L ws) (h0 : 1 ≤ cw.length) (h1 : cw.length ≤ 2048)
    (hw : ws.length ≤ 4096) (hd : ws.length ≤ d) (hin : ∀ x ∈ ws, x.at_ < cw.length) (hki : ki = (k : Int)) (hk : k ≤ ws.length) :
    Calls Try.prog 37 #[.slice A cw.length c, .slice L ws.length d, .int .i64 ki] w fun e w' => ∃ B q, e = .returned (.tuple #[.slice B (applyL cw (ws.take k)).length q, .int .i64 0]) ∧ OwW w.heap.size w' B q (applyL cw (ws.take k)) ∧ Below w.heap.size w w' := by
  subst hki
  obtain ⟨ac, rfl, hac⟩ := hc.2 (by intro hn; subst hn; simp at h0)
  have e0 : decide ((k : Int) < 0) = false := decide_eq_false (by omega)
  have e1 : decide ((k : Int) > (ws.length : Int)) = false := decide_eq_false (by omega)
  have e2 : decide (ws.length < k) = false := decide_eq_false (by omega)
  have e3 : decide ((ws.length : Int) > 4096) = false := decide_eq_false (by omega)
  have e4 : decide (4096 < ws.length) = false := decide_eq_false (by omega)
  have HW := Lib.hid hws
  have HI := Lib.hid hin
  have HC := Lib.hid hc
  clear hws hin hc hac
  obtain ⟨i0, hi, hz0, hz1, hz2⟩ := info_parts info_u32
  go_enter Try.func37, Try.ntmps37
  go_wp2_with (first | (go_at_call 64; refine (fits_yes cw (some ac) c _ h0 h1).mono ?_; rintro e w' ⟨rfl, rfl⟩) | (go_at_call 65; refine (contains_no ws cw.length w.heap.size 0 L (some ac) d c _ (HW.out.below (blw_alloc (Below.refl _ _) _)) HI.out (by go_simp)).mono ?_; rintro e w1 ⟨rfl, hb1⟩; have g1 : w1.cell? ⟨w.heap.size, 0, none⟩ = some (.slice (some ac) cw.length c) := (hb1.cell (by simp)).trans (by go_simp); have HB1 := Lib.hid (below_then' (blw_alloc (Below.refl w.heap.size w) _) hb1); clear hb1) | (at_make; refine wpList_make_full _ rfl (.tmp 33) (.tmp 33) 36 rfl w.heap.size 45 i0 (.int .u32 0) 1 Try.underlying36 hi hz0 hz1 .i64 .i64 _ _ cw.length rfl rfl rfl rfl ?m1 ?m2 ?m3 ?_; (case m1 => rw [hz2]; omega); (case m2 => simp [maxLen]; omega); (case m3 => exact HB1.out.size); intro w2 ho2 hg2; have g2 := hg2.cell g1 (by simp); have HB2 := Lib.hid (HB1.out.grown hg2 HB1.out.size (by simp)); have HO2 := Lib.hid ho2; clear ho2 hg2) | ((with_reducible refine copy_all rfl (.tmp 35) (.tmp 36) 36 36 rfl 45 Try.underlying36 ?u1 w w.heap.size w1.heap.size cw.length c ac rfl rfl _ (cw.flatMap encW) HO2.out ?u2 ?u3 ?u4 HB2.out ?_); (case u1 => exact info_size); (case u2 => exact len_flat cw); (case u3 => exact cells_flat (HC.out.below HB2.out)); (case u4 => exact one_flat cw); intro w3 ho3 hb3; have HO3 := Lib.hid ho3; have HB3 := Lib.hid hb3; clear ho3 hb3))
  go_loopw [43] (fun i wr => ∃ j : Nat, j ≤ k ∧ i = .int .i64 j ∧ wr.ownsRow w.heap.size 45 1 (.slice (some ⟨w1.heap.size, 0, none⟩) cw.length cw.length) cw.length ((applyL cw (ws.take j)).flatMap encW) ∧ Below w.heap.size w wr) (fun i _ => k - (intOf i).toNat)
  case atStart => exact ⟨0, by omega, rfl, HO3.out, HB3.out⟩
  case round =>
    obtain ⟨j, hj, rfl, hown, hbl⟩ := hrel
    have HO := Lib.hid hown
    have HB := Lib.hid hbl
    have hgl := (hown.lt w1.heap.size (by simp [Value.ownBlock])).2
    clear hown hbl
    by_cases hlt : j < k
    · have hjl : j < ws.length := by omega
      obtain ⟨ad, hL, hc0, hc1⟩ := (HW.out.below HB.out).at2 j hjl _ _ rfl
      subst hL
      have hat := HI.out ws[j] (List.getElem_mem hjl)
      have hlen := Lib.hid (applyL_len (ws.take j) cw)
      have hcell : wr.cell? ⟨w1.heap.size, ws[j].at_, none⟩ = some (.int .u32 (((applyL cw (ws.take j))[ws[j].at_]'(by rw [applyL_len]; exact hat)).toNat : Int)) := by
        rw [HO.out.cellAt ws[j].at_ (by omega), flat_at, List.getElem?_eq_getElem (by rw [applyL_len]; exact hat)]
        rfl
      have hfr := HO.out.frozenAt ws[j].at_
      have hts := Lib.hid (List.take_succ_eq_append_getElem hjl)
      have hne : w1.heap.size ≠ wr.heap.size := by omega
      go_wp2
      go_roundw
      case rel =>
        have hst := HO.out.stored ws[j].at_ (.int .u32 (ws[j].word.toNat : Int))
        refine ⟨j + 1, by omega, by go_num, ?_, ?_⟩
        · rw [hts.out, applyL_snoc, ← flat_set]
          exact hst.1.alloc _
        · exact blw_alloc (HB.out.setCell HB1.out.size _) _
      case measure => simp [intOf]; omega
    · obtain rfl : j = k := by omega
      go_wp2
      go_ret2
      have hlen := applyL_len (ws.take j) cw
      refine ⟨some ⟨w1.heap.size, 0, none⟩, cw.length, ?_, ?_, HB.out⟩
      · rw [hlen]; rfl
      · unfold OwW; rw [hlen]; exact HO.out
end Go.Proofs.Ytjlihpbnhojdgaa.Cell
