/- Contracts of package check: digits, Rest. -/
import Derived.Test.YtjopjlnnmhokfaaBase
namespace Go.Proofs.Ytjopjlnnmhokfaa.Chk
open Go.RowKit Go.Proofs.Ytjopjlnnmhokfaa.Base
set_option linter.unusedVariables false
set_option linter.unusedSimpArgs false
set_option maxRecDepth 20000

def digB (c : UInt8) : Bool := 48 ≤ c.toNat && c.toNat ≤ 57
def allDig (s : ByteArray) : Bool := s.data.toList.all digB
def digitsE (s : ByteArray) : Int := if s.size = 0 ∨ 200 < s.size then 1 else if allDig s then 0 else 7

theorem allDig_of (s : ByteArray) (h : ∀ i, ∀ h : i < s.size, digB (s[i]'h) = true) : allDig s = true := by
  unfold allDig
  rw [List.all_eq_true]
  intro x hx
  obtain ⟨i, hi, rfl⟩ := List.getElem_of_mem hx
  exact h i (by simpa using hi)
theorem not_allDig (s : ByteArray) (i : Nat) (h : i < s.size) (hn : digB (s[i]'h) = false) : allDig s = false := by
  unfold allDig
  rw [List.all_eq_false]
  exact ⟨s[i], by simp [ByteArray.getElem_eq_getElem_data], by simp [hn]⟩
theorem allDig_at (s : ByteArray) (h : allDig s = true) (i : Nat) (hi : i < s.size) : 48 ≤ (s[i]'hi).toNat ∧ (s[i]'hi).toNat ≤ 57 := by
  unfold allDig at h
  rw [List.all_eq_true] at h
  have := h (s[i]) (by simp [ByteArray.getElem_eq_getElem_data])
  simpa [digB] using this


theorem dig_false {c : UInt8} (h : (c.toNat : Int) < 48 ∨ 57 < (c.toNat : Int)) : digB c = false := by
  unfold digB; simp; omega
theorem dig_true {c : UInt8} (h : 48 ≤ (c.toNat : Int) ∧ (c.toNat : Int) ≤ 57) : digB c = true := by
  unfold digB; simp; omega
theorem digits_bad (s : ByteArray) (h0 : 0 < s.size) (h1 : s.size ≤ 200) (i : Nat) (h : i < s.size) (hn : digB (s[i]'h) = false) : digitsE s = 7 := by
  unfold digitsE
  rw [if_neg (by omega), not_allDig s i h hn]
  rfl

/-- digits: 0 for one to 200 digits, 1 for no bytes or more than 200, 7 else. -/
theorem digits_any (s : ByteArray) (w : World) :
    Calls Try.prog 57 #[.string s] w fun e w' => e = .returned (.int .i64 (digitsE s)) ∧ Below w.heap.size w w' := by
  by_cases h0 : s.size = 0 ∨ 200 < s.size
  · have hd : digitsE s = 1 := by unfold digitsE; rw [if_pos h0]
    rw [hd]
    rcases h0 with h0 | h0
    · have e1 : s.toList = [] := data_nil s h0
      clear h0 hd
      go_enter Try.func57, Try.ntmps57
      go_wp2
      go_ret
      exact ⟨rfl, Below.refl _ _⟩
    · have e1 : s.toList.isEmpty = false := data_ne s (by omega)
      clear hd
      go_enter Try.func57, Try.ntmps57
      go_wp2
      go_ret
      exact ⟨rfl, Below.refl _ _⟩
  · have e1 : s.toList.isEmpty = false := data_ne s (by omega)
    have e2 : s.size ≤ 200 := by omega
    have e3 : 0 < s.size := by omega
    clear h0
    go_enter Try.func57, Try.ntmps57
    go_wp2
    go_loopw [] (fun w' => ∃ pos : Nat, pos ≤ s.size ∧ w' = w.iter s pos ∧ ∀ i, i < pos → ∀ h : i < s.size, digB (s[i]'h) = true) (fun w' => s.size - w'.iterPos w.heap.size)
    case atStart => exact ⟨0, by omega, rfl, by intro i hi; omega⟩
    case round =>
      obtain ⟨pos, hp0, rfl, hall0⟩ := hrel
      have hall := Lib.hid hall0
      clear hall0
      by_cases hp : pos < s.size
      · by_cases ha : (s[pos]'hp).toNat < 128
        · have hnx : ∀ ty, (Instr.next (.pointer (some ⟨w.heap.size, 0, none⟩)) true ty).run Try.prog (w.iter s pos) = _ := fun ty => run_next_ascii w s pos ty hp ha
          go_wp2
          · rename_i hb
            go_ret
            exact ⟨ret_int (digits_bad s e3 e2 pos hp (dig_false hb)).symm, below_iter _ _ _⟩
          · rename_i hb
            have hb' := dig_true hb
            go_roundw
            case rel =>
              refine ⟨pos + 1, by omega, rfl, ?_⟩
              intro i hi h
              by_cases hip : i = pos
              · subst hip; exact hb'
              · exact hall.out i (by omega) h
            case measure => simp; omega
          · rename_i hb
            go_ret
            exact ⟨ret_int (digits_bad s e3 e2 pos hp (dig_false (.inl hb))).symm, below_iter _ _ _⟩
        · have hd := decode_high s pos hp (by omega)
          have hi := decode_le s pos
          have hnx : ∀ ty, (Instr.next (.pointer (some ⟨w.heap.size, 0, none⟩)) true ty).run Try.prog (w.iter s pos) = _ := fun ty => run_next_any w s pos ty hp
          generalize Utf8.decode s pos = d at hd hi hnx
          obtain ⟨r, n⟩ := d
          simp only at hd hi hnx
          obtain ⟨hd1, hd2⟩ := hd
          go_wp2
          all_goals
            go_ret
            exact ⟨ret_int (digits_bad s e3 e2 pos hp (dig_false (.inr (by omega)))).symm, below_iter _ _ _⟩
      · obtain rfl : pos = s.size := by omega
        have hnx : ∀ ty, (Instr.next (.pointer (some ⟨w.heap.size, 0, none⟩)) true ty).run Try.prog (w.iter s s.size) = _ := fun ty => run_next_end w s s.size ty hp
        have hz : digitsE s = 0 := by
          unfold digitsE
          rw [if_neg (by omega), allDig_of s (fun i h => hall.out i h h)]
          rfl
        have HZ := Lib.hid hz
        clear hz
        go_wp2
        go_ret
        exact ⟨ret_int HZ.out.symm, below_iter _ _ _⟩

/-! ### Rest -/
def restL (l : List UInt8) : Int := l.foldl (fun n c => (n * 10 + ((c.toNat : Int) - 48)) % 97) 0
theorem restL_snoc (l : List UInt8) (c : UInt8) : restL (l ++ [c]) = (restL l * 10 + ((c.toNat : Int) - 48)) % 97 := by
  unfold restL; rw [List.foldl_append]; rfl
theorem restL_bound (l : List UInt8) : 0 ≤ restL l ∧ restL l < 97 := by
  rcases List.eq_nil_or_concat l with rfl | ⟨l', c, rfl⟩
  · exact ⟨by decide, by decide⟩
  · rw [List.concat_eq_append, restL_snoc]; omega














































end Go.Proofs.Ytjopjlnnmhokfaa.Chk
