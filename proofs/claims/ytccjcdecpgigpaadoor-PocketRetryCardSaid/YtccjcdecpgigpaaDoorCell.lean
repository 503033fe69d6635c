/- Contracts of package cell (Apply, Diff) and of the laws' helpers some, sameWords. -/
import Derived.Test.YtccjcdecpgigpaaDoorBase
import Derived.Laws.CopyOwn
namespace Go.Proofs.YtccjcdecpgigpaaDoor.Cell
open Go.RowKit Go.Proofs.YtccjcdecpgigpaaDoor.Base
set_option linter.unusedVariables false
set_option linter.unusedSimpArgs false
set_option maxRecDepth 20000

theorem info_u32 : (Tryd.prog.info? 93).map (fun i => (i.zero, i.size, i.bytes)) = some (some (.int .u32 0), 1, 4) := by kernel_rfl

/-- A slice of words of the call's own. -/
def OwW (base : Nat) (w : World) (A : Option Addr) (c : Nat) (xs : List UInt32) : Prop := w.ownsRow base 93 1 (.slice A xs.length c) xs.length (xs.flatMap encW)
theorem OwW.read {base : Nat} {w : World} {A : Option Addr} {c : Nat} {xs : List UInt32} (h : OwW base w A c xs) : RdE 1 encW w A xs := by
  obtain ⟨A1, c1, he, hr⟩ := own_read (enc := encW) (fun _ => rfl) (by decide) h
  cases he
  exact hr

theorem OwW.of {base : Nat} {w : World} {v : Value} {n : Nat} {cs : List Value} {xs : List UInt32} (h : w.ownsRow base 93 1 v n cs) (hn : n = xs.length) (hc : cs = xs.flatMap encW) : ∃ A c, v = .slice A xs.length c ∧ OwW base w A c xs := by
  subst hn hc
  obtain ⟨A, c, rfl, _⟩ := own_read (enc := encW) (fun _ => rfl) (by decide) h
  exact ⟨A, c, rfl, h⟩

/-! ### sameWords -/







































































/-! ### some -/








def someL (l : List UInt32) (most : Nat) : List UInt32 := if l.take most = [] then [0] else l.take most





































































/-! ### Apply -/
theorem info_wr : (Tryd.prog.info? 123).map (fun i => (i.zero, i.size, i.bytes)) = some (some (.agg #[.int .i64 0, .int .u32 0]), 2, 16) := by kernel_rfl
structure Wr where
  at_ : Nat
  word : UInt32
def Wr.enc (x : Wr) : List Value := [.int .i64 (x.at_ : Int), .int .u32 (x.word.toNat : Int)]
def OwWr (base : Nat) (w : World) (A : Option Addr) (c : Nat) (xs : List Wr) : Prop := w.ownsRow base 123 2 (.slice A xs.length c) xs.length (xs.flatMap Wr.enc)
theorem OwWr.read {base : Nat} {w : World} {A : Option Addr} {c : Nat} {xs : List Wr} (h : OwWr base w A c xs) : RdE 2 Wr.enc w A xs := by
  obtain ⟨A1, c1, he, hr⟩ := own_read (enc := Wr.enc) (fun _ => rfl) (by decide) h
  cases he
  exact hr
theorem OwWr.of {base : Nat} {w : World} {v : Value} {n : Nat} {cs : List Value} {xs : List Wr} (h : w.ownsRow base 123 2 v n cs) (hn : n = xs.length) (hc : cs = xs.flatMap Wr.enc) : ∃ A c, v = .slice A xs.length c ∧ OwWr base w A c xs := by
  subst hn hc
  obtain ⟨A, c, rfl, _⟩ := own_read (enc := Wr.enc) (fun _ => rfl) (by decide) h
  exact ⟨A, c, rfl, h⟩
def applyL (c : List UInt32) (ws : List Wr) : List UInt32 := ws.foldl (fun c x => c.set x.at_ x.word) c
theorem applyL_len (ws : List Wr) : ∀ c, (applyL c ws).length = c.length := by
  induction ws with
  | nil => intro c; rfl
  | cons x ws ih => intro c; show (applyL (c.set x.at_ x.word) ws).length = _; rw [ih]; simp
theorem applyL_snoc (c : List UInt32) (ws : List Wr) (x : Wr) : applyL c (ws ++ [x]) = (applyL c ws).set x.at_ x.word := by
  unfold applyL; rw [List.foldl_append]; rfl

theorem fits_yes (xs : List UInt32) (A : Option Addr) (c : Nat) (w : World) (h0 : 1 ≤ xs.length) (h1 : xs.length ≤ 2048) :
    Calls Tryd.prog 52 #[.slice A xs.length c] w fun e w' => e = .returned (.bool true) ∧ w = w' := by
  have e1 : (1 : Int) ≤ (xs.length : Int) := by omega
  have e2 : (xs.length : Int) ≤ 2048 := by omega
  go_enter Tryd.func52, Tryd.ntmps52
  go_wp2
  go_ret
  exact ⟨rfl, rfl⟩
/-- The closure of Apply: is a write's place not there? -/
theorem outside_no (x : Wr) (b o : Nat) (A : Option Addr) (n c : Nat) (w : World) (hx : x.at_ < n) (hcell : w.cell? ⟨b, o, none⟩ = some (.slice A n c)) (hb : b < w.heap.size) :
    Calls Tryd.prog 54 #[.agg #[.int .i64 (x.at_ : Int), .int .u32 (x.word.toNat : Int)], .pointer (some ⟨b, o, none⟩)] w fun e w' => e = .returned (.bool false) ∧ Below w.heap.size w w' := by
  have e1 : decide ((x.at_ : Int) < 0) = false := decide_eq_false (by omega)
  have e2 : decide (n ≤ x.at_) = false := decide_eq_false (by omega)
  have hne : b ≠ w.heap.size := by omega
  go_enter Tryd.func54, Tryd.ntmps54
  go_wp2
  go_ret
  exact ⟨ret_bool (by simp [e1, e2]), blw_alloc (Below.refl _ _) _⟩

theorem index_none (ws : List Wr) (n b o : Nat) (L A : Option Addr) (d c : Nat) (w : World) (hws : RdE 2 Wr.enc w L ws) (hin : ∀ x ∈ ws, x.at_ < n) (hcell : w.cell? ⟨b, o, none⟩ = some (.slice A n c)) :
    Calls Tryd.prog 100 #[.slice L ws.length d, .func (.func 54) #[] #[.pointer (some ⟨b, o, none⟩)]] w fun e w' => e = .returned (.int .i64 (-1)) ∧ Below w.heap.size w w' := by
  have hmx := hws.1
  have hb : b < w.heap.size := World.block_lt_of_cell? w _ hcell
  have HW := Lib.hid hws
  have HI := Lib.hid hin
  have HC := Lib.hid hcell
  clear hws hin hcell
  go_enter Tryd.func100, Tryd.ntmps100
  go_wp2
  go_loopw [8] (fun i wr => ∃ k : Nat, k ≤ ws.length ∧ i = .int .i64 k ∧ Below w.heap.size w wr) (fun i _ => ws.length - (intOf i).toNat)
  case atStart => exact ⟨0, by omega, rfl, Below.refl _ _⟩
  case round =>
    obtain ⟨k, hk, rfl, hbl⟩ := hrel
    have HB := Lib.hid hbl
    have hsz := hbl.size
    clear hbl
    by_cases hlt : k < ws.length
    · obtain ⟨ad, rfl, hc0, hc1⟩ := (HW.out.below HB.out).at2 k hlt _ _ rfl
      have hcw : wr.cell? ⟨b, o, none⟩ = some (.slice A n c) := (HB.out.cell hb).trans HC.out
      have HCW := Lib.hid hcw
      have hat := HI.out ws[k] (List.getElem_mem hlt)
      clear hcw
      go_wp2_with (go_at_call 54; refine (outside_no ws[k] b o A n c _ hat HCW.out (by omega)).mono ?_; rintro e w1 ⟨rfl, hb1⟩; have HB1 := Lib.hid hb1; clear hb1)
      go_roundw
      case rel => exact ⟨k + 1, by omega, by go_num, below_then HB.out hsz HB1.out⟩
      case measure => simp [intOf]; omega
    · obtain rfl : k = ws.length := by omega
      go_wp2
      go_ret
      exact ⟨rfl, HB.out⟩
theorem contains_no (ws : List Wr) (n b o : Nat) (L A : Option Addr) (d c : Nat) (w : World) (hws : RdE 2 Wr.enc w L ws) (hin : ∀ x ∈ ws, x.at_ < n) (hcell : w.cell? ⟨b, o, none⟩ = some (.slice A n c)) :
    Calls Tryd.prog 53 #[.slice L ws.length d, .func (.func 54) #[] #[.pointer (some ⟨b, o, none⟩)]] w fun e w' => e = .returned (.bool false) ∧ Below w.heap.size w w' := by
  have H := Lib.hid (fun w' => index_none ws n b o L A d c w')
  have HW := Lib.hid hws
  have HI := Lib.hid hin
  have HC := Lib.hid hcell
  clear hws hin hcell
  go_enter Tryd.func53, Tryd.ntmps53
  go_wp2_with (go_at_call 100; refine (H.out _ HW.out HI.out HC.out).mono ?_; rintro e w1 ⟨rfl, hb1⟩; have HB1 := Lib.hid hb1; clear hb1)
  go_ret
  exact ⟨rfl, HB1.out⟩

/-! a row of the call's own that fills its block -/
theorem own_full {w : World} {base g n : Nat} {e : TypeId} {xs : List Value} (h : w.ownsRow base e 1 (.slice (some ⟨g, 0, none⟩) n n) n xs) : w.heap[g]? = some (.cells xs.toArray e (0, 0)) := by
  rcases h.2 with ⟨h', _⟩ | ⟨g', cap', cur, h', _, hg, _, _, hcs, htake⟩
  · simp at h'
  · simp only [Value.slice.injEq, Option.some.injEq, Addr.mk.injEq, and_true, true_and] at h'
    obtain ⟨rfl, rfl⟩ := h'
    rw [hg]
    have : cur.toList.take (n * 1) = cur.toList := List.take_of_length_le (by rw [Array.length_toList, hcs]; exact Nat.le_refl _)
    rw [this] at htake
    rw [← htake]
theorem own_of_full {w : World} {base g n : Nat} {e : TypeId} {xs : List Value} (h : w.heap[g]? = some (.cells xs.toArray e (0, 0))) (hb : base ≤ g) (hn : xs.length = n) (hm : n ≤ maxLen) : w.ownsRow base e 1 (.slice (some ⟨g, 0, none⟩) n n) n xs :=
  ⟨by omega, .inr ⟨g, n, xs.toArray, rfl, hb, h, Nat.le_refl _, hm, by simp [hn], List.take_of_length_le (by simp [hn])⟩⟩

theorem info_size : (Tryd.prog.info? 93).map (·.size) = some 1 := by kernel_rfl
theorem len_flat (xs : List UInt32) : (xs.flatMap encW).length = xs.length := by
  induction xs with
  | nil => rfl
  | cons x xs ih => simp [List.flatMap_cons, encW] at ih ⊢; omega
theorem flat_at (xs : List UInt32) (j : Nat) : (xs.flatMap encW)[j]? = (xs[j]?).map fun x => Value.int .u32 (x.toNat : Int) := by
  induction xs generalizing j with
  | nil => simp
  | cons x xs ih =>
    cases j with
    | zero => simp [encW]
    | succ j => simp only [List.flatMap_cons, encW, List.cons_append, List.nil_append, List.getElem?_cons_succ]; exact ih j
theorem one_flat (xs : List UInt32) : ∀ v ∈ xs.flatMap encW, v.oneCell' = true := by
  intro v hv
  obtain ⟨x, _, hx⟩ := List.mem_flatMap.1 hv
  simp [encW] at hx
  subst hx
  rfl
theorem cells_flat {w : World} {ad : Addr} {xs : List UInt32} (h : RdE 1 encW w (some ad) xs) : ∀ j v, (xs.flatMap encW)[j]? = some v → w.cell? (ad.add j) = some v := by
  intro j v hj
  rw [flat_at] at hj
  cases hx : xs[j]? with
  | none => rw [hx] at hj; simp at hj
  | some x =>
    rw [hx] at hj
    simp at hj
    subst hj
    obtain ⟨ad', e, hc⟩ := h.2 (by intro hn; subst hn; simp at hx)
    cases e
    simpa using hc j x hx 0 _ rfl
section
variable {P : Program} {ops : Array Oper} {rest : List Oper} {o : Oper} {a : Act} {Q : Exit → Act → World → Prop} {w : World}
/-- copy(d, s): d a row of the call's own that fills its block, s as long. -/
theorem copy_all (hgd : o.guard = none) (d s : Operand) (dT sT : TypeId) (ho : o.op = .call { callee := .builtin .copy, args := #[d, s], argTypes := #[dT, sT] }) (elem : TypeId) (hu : P.underlying dT = some (.slice elem)) (hsz : (P.info? elem).map (·.size) = some 1)
    (w0 : World) (base g n sCap : Nat) (ad : Addr) (hd : a.eval d = .slice (some ⟨g, 0, none⟩) n n) (hs : a.eval s = .slice (some ad) n sCap) (cur cs : List Value)
    (hown : w.ownsRow base elem 1 (.slice (some ⟨g, 0, none⟩) n n) n cur) (hn : cs.length = n) (hsrc : ∀ j v, cs[j]? = some v → w.cell? (ad.add j) = some v) (h1 : ∀ v ∈ cs, v.oneCell' = true) (HB : Below base w0 w)
    (h : ∀ w3, w3.ownsRow base elem 1 (.slice (some ⟨g, 0, none⟩) n n) n cs → Below base w0 w3 → wpList P ops Q rest (a.put o.dst (goInt n)) w3) : wpList P ops Q (o :: rest) a w := by
  have hblk := own_full hown
  have hcur : cur.length = n := by have := hown.1; omega
  have hbg : base ≤ g := (hown.lt g (by simp [Value.ownBlock])).1
  have hm : n ≤ maxLen := by
    rcases hown.2 with ⟨h', _⟩ | ⟨g', cap', cur', h', _, _, _, hm, _⟩
    · simp at h'
    · simp only [Value.slice.injEq] at h'
      omega
  refine wpList_copy_own hgd d s dT sT ho elem hu hsz g 0 n n ad n sCap hd hs cur.toArray elem hblk cs (by simp [hn]) hsrc (by simp; omega) h1 ?_
  have e : (cur.toArray.toList.take 0 ++ (cs ++ cur.toArray.toList.drop (0 + cs.length))).toArray = cs.toArray := by
    rw [List.drop_eq_nil_of_le (by simp; omega)]; simp
  rw [e, hn]
  refine h _ (own_of_full ?_ hbg hn hm) (below_setRow HB hbg _)
  simp [World.setRow, Array.getElem?_modify, hblk]
end

theorem flat_set (xs : List UInt32) (i : Nat) (x : UInt32) : (xs.flatMap encW).set i (.int .u32 (x.toNat : Int)) = (xs.set i x).flatMap encW := by
  induction xs generalizing i with
  | nil => simp
  | cons y ys ih =>
    cases i with
    | zero => simp [encW]
    | succ i => simp only [List.flatMap_cons, encW, List.cons_append, List.nil_append, List.set_cons_succ]; rw [ih]

theorem apply_any (cw : List UInt32) (ws : List Wr) (k : Nat) (ki : Int) (A L : Option Addr) (c d : Nat) (w : World) (hc : RdE 1 encW w A cw) (hws : RdE 2 Wr.enc w L ws) (h0 : 1 ≤ cw.length) (h1 : cw.length ≤ 2048)
    (hw : ws.length ≤ 4096) (hd : ws.length ≤ d) (hin : ∀ x ∈ ws, x.at_ < cw.length) (hki : ki = (k : Int)) (hk : k ≤ ws.length) :
    Calls Tryd.prog 25 #[.slice A cw.length c, .slice L ws.length d, .int .i64 ki] w fun e w' => ∃ B q, e = .returned (.tuple #[.slice B (applyL cw (ws.take k)).length q, .int .i64 0]) ∧ OwW w.heap.size w' B q (applyL cw (ws.take k)) ∧ Below w.heap.size w w' := by
  subst hki
  obtain ⟨ac, rfl, hac⟩ := hc.2 (by intro hn; subst hn; simp at h0)
  have e0 : decide ((k : Int) < 0) = false := decide_eq_false (by omega)
  have e1 : decide ((k : Int) > (ws.length : Int)) = false := decide_eq_false (by omega)
  have e2 : decide (ws.length < k) = false := decide_eq_false (by omega)
  have e3 : decide ((ws.length : Int) > 4096) = false := decide_eq_false (by omega)
  have e4 : decide (4096 < ws.length) = false := decide_eq_false (by omega)
  have HW := Lib.hid hws
  have HI := Lib.hid hin
  have HC := Lib.hid hc
  clear hws hin hc hac
  obtain ⟨i0, hi, hz0, hz1, hz2⟩ := info_parts info_u32
  go_enter Tryd.func25, Tryd.ntmps25
  go_wp2_with (first | (go_at_call 52; refine (fits_yes cw (some ac) c _ h0 h1).mono ?_; rintro e w' ⟨rfl, rfl⟩) | (go_at_call 53; refine (contains_no ws cw.length w.heap.size 0 L (some ac) d c _ (HW.out.below (blw_alloc (Below.refl _ _) _)) HI.out (by go_simp)).mono ?_; rintro e w1 ⟨rfl, hb1⟩; have g1 : w1.cell? ⟨w.heap.size, 0, none⟩ = some (.slice (some ac) cw.length c) := (hb1.cell (by simp)).trans (by go_simp); have HB1 := Lib.hid (below_then' (blw_alloc (Below.refl w.heap.size w) _) hb1); clear hb1) | (at_make; refine wpList_make_full _ rfl (.tmp 33) (.tmp 33) 50 rfl w.heap.size 93 i0 (.int .u32 0) 1 Tryd.underlying50 hi hz0 hz1 .i64 .i64 _ _ cw.length rfl rfl rfl rfl ?m1 ?m2 ?m3 ?_; (case m1 => rw [hz2]; omega); (case m2 => simp [maxLen]; omega); (case m3 => exact HB1.out.size); intro w2 ho2 hg2; have g2 := hg2.cell g1 (by simp); have HB2 := Lib.hid (HB1.out.grown hg2 HB1.out.size (by simp)); have HO2 := Lib.hid ho2; clear ho2 hg2) | ((with_reducible refine copy_all rfl (.tmp 35) (.tmp 36) 50 50 rfl 93 Tryd.underlying50 ?u1 w w.heap.size w1.heap.size cw.length c ac rfl rfl _ (cw.flatMap encW) HO2.out ?u2 ?u3 ?u4 HB2.out ?_); (case u1 => exact info_size); (case u2 => exact len_flat cw); (case u3 => exact cells_flat (HC.out.below HB2.out)); (case u4 => exact one_flat cw); intro w3 ho3 hb3; have HO3 := Lib.hid ho3; have HB3 := Lib.hid hb3; clear ho3 hb3))
  go_loopw [43] (fun i wr => ∃ j : Nat, j ≤ k ∧ i = .int .i64 j ∧ wr.ownsRow w.heap.size 93 1 (.slice (some ⟨w1.heap.size, 0, none⟩) cw.length cw.length) cw.length ((applyL cw (ws.take j)).flatMap encW) ∧ Below w.heap.size w wr) (fun i _ => k - (intOf i).toNat)
  case atStart => exact ⟨0, by omega, rfl, HO3.out, HB3.out⟩
  case round =>
    obtain ⟨j, hj, rfl, hown, hbl⟩ := hrel
    have HO := Lib.hid hown
    have HB := Lib.hid hbl
    have hgl := (hown.lt w1.heap.size (by simp [Value.ownBlock])).2
    clear hown hbl
    by_cases hlt : j < k
    · have hjl : j < ws.length := by omega
      obtain ⟨ad, hL, hc0, hc1⟩ := (HW.out.below HB.out).at2 j hjl _ _ rfl
      subst hL
      have hat := HI.out ws[j] (List.getElem_mem hjl)
      have hlen := Lib.hid (applyL_len (ws.take j) cw)
      have hcell : wr.cell? ⟨w1.heap.size, ws[j].at_, none⟩ = some (.int .u32 (((applyL cw (ws.take j))[ws[j].at_]'(by rw [applyL_len]; exact hat)).toNat : Int)) := by
        rw [HO.out.cellAt ws[j].at_ (by omega), flat_at, List.getElem?_eq_getElem (by rw [applyL_len]; exact hat)]
        rfl
      have hfr := HO.out.frozenAt ws[j].at_
      have hts := Lib.hid (List.take_succ_eq_append_getElem hjl)
      have hne : w1.heap.size ≠ wr.heap.size := by omega
      go_wp2
      go_roundw
      case rel =>
        have hst := HO.out.stored ws[j].at_ (.int .u32 (ws[j].word.toNat : Int))
        refine ⟨j + 1, by omega, by go_num, ?_, ?_⟩
        · rw [hts.out, applyL_snoc, ← flat_set]
          exact hst.1.alloc _
        · exact blw_alloc (HB.out.setCell HB1.out.size _) _
      case measure => simp [intOf]; omega
    · obtain rfl : j = k := by omega
      go_wp2
      go_ret2
      have hlen := applyL_len (ws.take j) cw
      refine ⟨some ⟨w1.heap.size, 0, none⟩, cw.length, ?_, ?_, HB.out⟩
      · rw [hlen]; rfl
      · unfold OwW; rw [hlen]; exact HO.out
end Go.Proofs.YtccjcdecpgigpaaDoor.Cell
