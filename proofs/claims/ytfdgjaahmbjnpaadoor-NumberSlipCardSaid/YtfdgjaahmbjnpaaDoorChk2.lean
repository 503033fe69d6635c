/- Contracts of package check: the motions of a pentagon, moved, all, Good. -/
import Derived.Test.YtfdgjaahmbjnpaaDoorChk
namespace Go.Proofs.YtfdgjaahmbjnpaaDoor.Chk
open Go.RowKit Go.Proofs.YtfdgjaahmbjnpaaDoor.Base
set_option linter.unusedVariables false
set_option linter.unusedSimpArgs false
set_option maxRecDepth 20000

def thenI (a b : Int) : Int :=
  if 5 ≤ a then (if b / 5 = 1 then ((a - 5 - b % 5 + 5 * (b / 5)).tmod 5 + 5) % 5 else 5 + ((a - 5 - b % 5 + 5 * (b / 5)).tmod 5 + 5) % 5)
  else 5 * (b / 5) + (a + b % 5) % 5
def backI (a : Int) : Int := if 5 ≤ a then a else (5 - a) % 5
def dg (n : Int) : Prop := 0 ≤ n ∧ n ≤ 9
theorem dg_all {P : Int → Prop} (h : ∀ k : Fin 10, P ((k.val : Nat) : Int)) : ∀ n, dg n → P n := by
  intro n ⟨h0, h1⟩
  have := h ⟨n.toNat, by omega⟩
  have e : ((n.toNat : Nat) : Int) = n := by omega
  rw [← e]; exact this
theorem tmod5 (x : Int) : -5 < x.tmod 5 ∧ x.tmod 5 < 5 := by
  rcases Int.le_total 0 x with h | h
  · rw [Int.tmod_eq_emod_of_nonneg h]; omega
  · obtain ⟨y, rfl⟩ : ∃ y, x = -y := ⟨-x, by omega⟩
    rw [Int.neg_tmod, Int.tmod_eq_emod_of_nonneg (by omega)]; omega
theorem thenI_dg (a b : Int) (ha : dg a) (hb : dg b) : dg (thenI a b) := by
  obtain ⟨a0, a1⟩ := ha
  obtain ⟨b0, b1⟩ := hb
  have hm := tmod5
  have := hm (a - 5 - b % 5 + 5 * (b / 5))
  unfold thenI dg
  split
  · split <;> omega
  · omega
theorem backI_dg (a : Int) (ha : dg a) : dg (backI a) := by
  unfold dg backI at *
  split <;> omega


















theorem then_any (a b : Int) (w : World) (ha : dg a) (hb : dg b) :
    Calls Tryd.prog 65 #[.int .i64 a, .int .i64 b] w fun e w' => e = .returned (.int .i64 (thenI a b)) ∧ w = w' := by
  obtain ⟨a0, a1⟩ := ha
  obtain ⟨b0, b1⟩ := hb
  have hm := tmod5
  have hx := hm (a - 5 - b % 5 + 5 * (b / 5))
  obtain ⟨hx0, hx1⟩ := hx
  clear hm
  by_cases h5 : 5 ≤ a
  · by_cases hb5 : b / 5 = 1
    · have E := Lib.hid (show thenI a b = ((a - 5 - b % 5 + 5 * (b / 5)).tmod 5 + 5) % 5 by unfold thenI; rw [if_pos h5, if_pos hb5])
      have e1 : (b / 5 == 1) = true := beq_iff_eq.mpr hb5
      clear hb5
      go_enter Tryd.func65, Tryd.ntmps65
      go_wp2
      go_ret
      exact ⟨ret_int (by rw [E.out]; try omega), rfl⟩
    · have E := Lib.hid (show thenI a b = 5 + ((a - 5 - b % 5 + 5 * (b / 5)).tmod 5 + 5) % 5 by unfold thenI; rw [if_pos h5, if_neg hb5])
      have e1 : (b / 5 == 1) = false := beq_eq_false_iff_ne.mpr hb5
      clear hb5
      go_enter Tryd.func65, Tryd.ntmps65
      go_wp2
      go_ret
      exact ⟨ret_int (by rw [E.out]; try omega), rfl⟩
  · have E := Lib.hid (show thenI a b = 5 * (b / 5) + (a + b % 5) % 5 by unfold thenI; rw [if_neg h5])
    go_enter Tryd.func65, Tryd.ntmps65
    go_wp2
    go_ret
    exact ⟨ret_int (by rw [E.out]; try omega), rfl⟩

theorem back_any (a : Int) (w : World) (ha : dg a) :
    Calls Tryd.prog 41 #[.int .i64 a] w fun e w' => e = .returned (.int .i64 (backI a)) ∧ w = w' := by
  obtain ⟨a0, a1⟩ := ha
  by_cases h5 : 5 ≤ a
  · have E := Lib.hid (show backI a = a by unfold backI; rw [if_pos h5])
    go_enter Tryd.func41, Tryd.ntmps41
    go_wp2
    go_ret
    exact ⟨ret_int (by rw [E.out]; try omega), rfl⟩
  · have E := Lib.hid (show backI a = (5 - a) % 5 by unfold backI; rw [if_neg h5])
    go_enter Tryd.func41, Tryd.ntmps41
    go_wp2
    go_ret
    exact ⟨ret_int (by rw [E.out]; try omega), rfl⟩














/-! ### moved -/
def toI (d : Int) : Int := [1, 5, 7, 6, 2, 8, 3, 0, 9, 4].getD d.toNat 0
def itI : Nat → Int → Int
  | 0, d => d
  | n + 1, d => toI (itI n d)
def movedI (d : Int) (place : Nat) : Int := itI (place % 8) d
theorem toI_dg (d : Int) (h : dg d) : dg (toI d) := by
  exact dg_all (P := fun d => dg (toI d)) (by unfold dg; decide) d h
theorem itI_dg (n : Nat) (d : Int) (h : dg d) : dg (itI n d) := by
  induction n with
  | zero => exact h
  | succ n ih => exact toI_dg _ ih
theorem moved_dg (d : Int) (p : Nat) (h : dg d) : dg (movedI d p) := itI_dg _ _ h
def tab : Array Value := #[.int .i64 1, .int .i64 5, .int .i64 7, .int .i64 6, .int .i64 2, .int .i64 8, .int .i64 3, .int .i64 0, .int .i64 9, .int .i64 4]
theorem tab_at (w : World) (t : TypeId) (d : Int) (h : dg d) : (w.alloc (.cells tab t)).cell? ⟨w.heap.size, d.toNat, none⟩ = some (.int .i64 (toI d)) := by
  have hb : (w.alloc (.cells tab t)).heap[w.heap.size]? = some (.cells tab t) := (MapKept.heap_alloc w _).1
  have key : ∀ d, dg d → tab[d.toNat]? = some (.int .i64 (toI d)) := dg_all (by
    intro k
    match k with
    | ⟨0, _⟩ => rfl
    | ⟨1, _⟩ => rfl
    | ⟨2, _⟩ => rfl
    | ⟨3, _⟩ => rfl
    | ⟨4, _⟩ => rfl
    | ⟨5, _⟩ => rfl
    | ⟨6, _⟩ => rfl
    | ⟨7, _⟩ => rfl
    | ⟨8, _⟩ => rfl
    | ⟨9, _⟩ => rfl)
  unfold World.cell?
  rw [hb]
  exact key d h
theorem moved_any (d : Int) (place : Nat) (w : World) (hd : dg d) (hp : place ≤ 1000) :
    Calls Tryd.prog 66 #[.int .i64 d, .int .i64 place] w fun e w' => e = .returned (.int .i64 (movedI d place)) ∧ Below w.heap.size w w' := by
  have HD := Lib.hid hd
  clear hd
  go_enter Tryd.func66, Tryd.ntmps66
  go_wp2
  have HT := Lib.hid (fun d hd => by have := tab_at w 129 d hd; unfold tab at this; exact this : ∀ d, dg d → (w.alloc (.cells #[.int .i64 1, .int .i64 5, .int .i64 7, .int .i64 6, .int .i64 2, .int .i64 8, .int .i64 3, .int .i64 0, .int .i64 9, .int .i64 4] 129)).cell? ⟨w.heap.size, d.toNat, none⟩ = some (.int .i64 (toI d)))
  go_loop [0, 9] (fun x i => ∃ k : Nat, k ≤ place % 8 ∧ i = .int .i64 k ∧ x = .int .i64 (itI k d)) (fun _ i => place % 8 - (intOf i).toNat)
  case atStart => exact ⟨0, by omega, rfl, rfl⟩
  case round =>
    obtain ⟨k, hk, rfl, rfl⟩ := hrel
    have hk1 := itI_dg k d HD.out
    have hcell := HT.out _ hk1
    obtain ⟨hk2, hk3⟩ := hk1
    by_cases hlt : k < place % 8
    · go_wp2
      go_round
      case rel => exact ⟨k + 1, by omega, by go_num, rfl⟩
      case measure => simp [intOf]; omega
    · obtain rfl : k = place % 8 := by omega
      go_wp2
      go_ret
      exact ⟨rfl, (Below.refl _ _).alloc (Nat.le_refl _) _⟩

/-! ### all, Good -/
def allR : Int → Nat → List UInt8 → Int
  | c, _, [] => c
  | c, k, x :: l => allR (thenI c (movedI ((x.toNat : Int) - 48) k)) (k + 1) l
def allI (s : ByteArray) (from_ : Nat) : Int := allR 0 from_ s.data.toList.reverse
theorem allR_snoc (l : List UInt8) : ∀ (c : Int) (k : Nat) (x : UInt8), allR c k (l ++ [x]) = thenI (allR c k l) (movedI ((x.toNat : Int) - 48) (k + l.length)) := by
  induction l with
  | nil => intro c k x; rfl
  | cons y l ih =>
    intro c k x
    simp only [List.cons_append, allR, List.length_cons]
    rw [ih]
    congr 2
    omega
theorem digB_dg (c : UInt8) (h : digB c = true) : dg ((c.toNat : Int) - 48) := by
  unfold digB at h
  simp at h
  unfold dg
  omega
theorem allR_dg (l : List UInt8) : ∀ (c : Int) (k : Nat), dg c → (∀ x ∈ l, digB x = true) → dg (allR c k l) := by
  induction l with
  | nil => intro c k hc _; exact hc
  | cons y l ih =>
    intro c k hc hl
    exact ih _ _ (thenI_dg _ _ hc (moved_dg _ _ (digB_dg y (hl y (by simp))))) (fun x hx => hl x (by simp [hx]))
theorem allDig_mem (s : ByteArray) (h : allDig s = true) : ∀ x ∈ s.data.toList, digB x = true := by
  unfold allDig at h
  exact List.all_eq_true.1 h
theorem rev_take_succ (s : ByteArray) (k : Nat) (h : k < s.size) : s.data.toList.reverse.take (k + 1) = s.data.toList.reverse.take k ++ [s[s.size - 1 - k]'(by omega)] := by
  rw [List.take_succ_eq_append_getElem (by simpa using h)]
  congr 2
  rw [List.getElem_reverse]
  simp [ByteArray.getElem_eq_getElem_data]
theorem all_any (s : ByteArray) (from_ : Nat) (w : World) (hd : allDig s = true) (hs : s.size ≤ 500) (hf : from_ ≤ 400) :
    Calls Tryd.prog 40 #[.string s, .int .i64 from_] w fun e w' => e = .returned (.int .i64 (allI s from_)) ∧ Below w.heap.size w w' := by
  have HD := Lib.hid hd
  clear hd
  go_enter Tryd.func40, Tryd.ntmps40
  go_wp2
  go_loopw [5, 9] (fun c i wr => ∃ k : Nat, k ≤ s.size ∧ i = .int .i64 k ∧ c = .int .i64 (allR 0 from_ (s.data.toList.reverse.take k)) ∧ Below w.heap.size w wr) (fun _ i _ => s.size - (intOf i).toNat)
  case atStart => exact ⟨0, by omega, rfl, rfl, Below.refl _ _⟩
  case round =>
    obtain ⟨k, hk, rfl, rfl, hb⟩ := hrel
    have HB := Lib.hid hb
    clear hb
    have hdg : dg (allR 0 from_ (s.data.toList.reverse.take k)) := allR_dg _ _ _ (by unfold dg; omega) (fun x hx => allDig_mem s HD.out x (by have := List.mem_of_mem_take hx; simpa using this))
    by_cases hlt : k < s.size
    · have hx := digB_dg _ (List.all_eq_true.1 HD.out (s[s.size - 1 - k]'(by omega)) (by simp [ByteArray.getElem_eq_getElem_data]))
      have hR := Lib.hid (rev_take_succ s k hlt)
      have hq := Lib.hid (show (s.data.toList.reverse.take k).length = k by simp; omega)
      obtain ⟨x0, x1⟩ := hx
      have hdx : dg (((s[s.size - 1 - k]'(by omega)).toNat : Int) - 48) := ⟨x0, x1⟩
      have hmd := moved_dg _ (from_ + k) hdx
      have i0 : s.size - 1 - k < s.size := by omega
      go_wp2_with (first | (go_at_call 66; refine (moved_any _ (from_ + k) _ hdx (by omega)).mono ?_; rintro e w1 ⟨rfl, hb1⟩; have HB1 := Lib.hid hb1; clear hb1) | (go_at_call 65; refine (then_any _ _ _ hdg hmd).mono ?_; rintro e w2 ⟨rfl, rfl⟩))
      go_roundw
      case rel => exact ⟨k + 1, by omega, by go_num, by rw [hR.out, allR_snoc, hq.out], below_then' HB.out HB1.out⟩
      case measure => simp [intOf]; omega
    · obtain rfl : k = s.size := by omega
      have ht := Lib.hid (List.take_of_length_le (l := s.data.toList.reverse) (i := s.size) (by simp))
      go_wp2
      go_ret
      exact ⟨ret_int (by unfold allI; rw [ht.out]), HB.out⟩
theorem good_any (s : ByteArray) (w : World) (hd : allDig s = true) (h1 : 1 < s.size) (h2 : s.size ≤ 200) :
    Calls Tryd.prog 25 #[.string s] w fun e w' => e = .returned (.bool (allI s 0 == 0)) ∧ Below w.heap.size w w' := by
  have hz : digitsE s = 0 := by unfold digitsE; rw [if_neg (by omega), hd]; rfl
  have HZ := Lib.hid hz
  have HD := Lib.hid hd
  clear hz hd
  go_enter Tryd.func25, Tryd.ntmps25
  go_wp2_with (first | (go_at_call 39; refine (digits_any s _).mono ?_; rw [HZ.out]; rintro e w1 ⟨rfl, hb1⟩; have HB1 := Lib.hid hb1; clear hb1) | (go_at_call 40; refine (all_any s 0 _ HD.out (by omega) (by omega)).mono ?_; rintro e w2 ⟨rfl, hb2⟩; have HB2 := Lib.hid hb2; clear hb2))
  go_ret
  exact ⟨rfl, below_then' HB1.out HB2.out⟩
end Go.Proofs.YtfdgjaahmbjnpaaDoor.Chk
