/- Contracts of package check: digits, Rest. -/
import Derived.Test.YtccjcdecpgigpaaDoorBase
namespace Go.Proofs.YtccjcdecpgigpaaDoor.Chk
open Go.RowKit Go.Proofs.YtccjcdecpgigpaaDoor.Base
set_option linter.unusedVariables false
set_option linter.unusedSimpArgs false
set_option maxRecDepth 20000

def digB (c : UInt8) : Bool := 48 ≤ c.toNat && c.toNat ≤ 57
def allDig (s : ByteArray) : Bool := s.data.toList.all digB
def digitsE (s : ByteArray) : Int := if s.size = 0 ∨ 200 < s.size then 1 else if allDig s then 0 else 7

theorem allDig_of (s : ByteArray) (h : ∀ i, ∀ h : i < s.size, digB (s[i]'h) = true) : allDig s = true := by
  unfold allDig
  rw [List.all_eq_true]
  intro x hx
  obtain ⟨i, hi, rfl⟩ := List.getElem_of_mem hx
  exact h i (by simpa using hi)
theorem not_allDig (s : ByteArray) (i : Nat) (h : i < s.size) (hn : digB (s[i]'h) = false) : allDig s = false := by
  unfold allDig
  rw [List.all_eq_false]
  exact ⟨s[i], by simp [ByteArray.getElem_eq_getElem_data], by simp [hn]⟩
theorem allDig_at (s : ByteArray) (h : allDig s = true) (i : Nat) (hi : i < s.size) : 48 ≤ (s[i]'hi).toNat ∧ (s[i]'hi).toNat ≤ 57 := by
  unfold allDig at h
  rw [List.all_eq_true] at h
  have := h (s[i]) (by simp [ByteArray.getElem_eq_getElem_data])
  simpa [digB] using this


theorem dig_false {c : UInt8} (h : (c.toNat : Int) < 48 ∨ 57 < (c.toNat : Int)) : digB c = false := by
  unfold digB; simp; omega
theorem dig_true {c : UInt8} (h : 48 ≤ (c.toNat : Int) ∧ (c.toNat : Int) ≤ 57) : digB c = true := by
  unfold digB; simp; omega
theorem digits_bad (s : ByteArray) (h0 : 0 < s.size) (h1 : s.size ≤ 200) (i : Nat) (h : i < s.size) (hn : digB (s[i]'h) = false) : digitsE s = 7 := by
  unfold digitsE
  rw [if_neg (by omega), not_allDig s i h hn]
  rfl

/-- digits: 0 for one to 200 digits, 1 for no bytes or more than 200, 7 else. -/
theorem digits_any (s : ByteArray) (w : World) :
    Calls Tryd.prog 96 #[.string s] w fun e w' => e = .returned (.int .i64 (digitsE s)) ∧ Below w.heap.size w w' := by
  by_cases h0 : s.size = 0 ∨ 200 < s.size
  · have hd : digitsE s = 1 := by unfold digitsE; rw [if_pos h0]
    rw [hd]
    rcases h0 with h0 | h0
    · have e1 : s.toList = [] := data_nil s h0
      clear h0 hd
      go_enter Tryd.func96, Tryd.ntmps96
      go_wp2
      go_ret
      exact ⟨rfl, Below.refl _ _⟩
    · have e1 : s.toList.isEmpty = false := data_ne s (by omega)
      clear hd
      go_enter Tryd.func96, Tryd.ntmps96
      go_wp2
      go_ret
      exact ⟨rfl, Below.refl _ _⟩
  · have e1 : s.toList.isEmpty = false := data_ne s (by omega)
    have e2 : s.size ≤ 200 := by omega
    have e3 : 0 < s.size := by omega
    clear h0
    go_enter Tryd.func96, Tryd.ntmps96
    go_wp2
    go_loopw [] (fun w' => ∃ pos : Nat, pos ≤ s.size ∧ w' = w.iter s pos ∧ ∀ i, i < pos → ∀ h : i < s.size, digB (s[i]'h) = true) (fun w' => s.size - w'.iterPos w.heap.size)
    case atStart => exact ⟨0, by omega, rfl, by intro i hi; omega⟩
    case round =>
      obtain ⟨pos, hp0, rfl, hall0⟩ := hrel
      have hall := Lib.hid hall0
      clear hall0
      by_cases hp : pos < s.size
      · by_cases ha : (s[pos]'hp).toNat < 128
        · have hnx : ∀ ty, (Instr.next (.pointer (some ⟨w.heap.size, 0, none⟩)) true ty).run Tryd.prog (w.iter s pos) = _ := fun ty => run_next_ascii w s pos ty hp ha
          go_wp2
          · rename_i hb
            go_ret
            exact ⟨ret_int (digits_bad s e3 e2 pos hp (dig_false hb)).symm, below_iter _ _ _⟩
          · rename_i hb
            have hb' := dig_true hb
            go_roundw
            case rel =>
              refine ⟨pos + 1, by omega, rfl, ?_⟩
              intro i hi h
              by_cases hip : i = pos
              · subst hip; exact hb'
              · exact hall.out i (by omega) h
            case measure => simp; omega
          · rename_i hb
            go_ret
            exact ⟨ret_int (digits_bad s e3 e2 pos hp (dig_false (.inl hb))).symm, below_iter _ _ _⟩
        · have hd := decode_high s pos hp (by omega)
          have hi := decode_le s pos
          have hnx : ∀ ty, (Instr.next (.pointer (some ⟨w.heap.size, 0, none⟩)) true ty).run Tryd.prog (w.iter s pos) = _ := fun ty => run_next_any w s pos ty hp
          generalize Utf8.decode s pos = d at hd hi hnx
          obtain ⟨r, n⟩ := d
          simp only at hd hi hnx
          obtain ⟨hd1, hd2⟩ := hd
          go_wp2
          all_goals
            go_ret
            exact ⟨ret_int (digits_bad s e3 e2 pos hp (dig_false (.inr (by omega)))).symm, below_iter _ _ _⟩
      · obtain rfl : pos = s.size := by omega
        have hnx : ∀ ty, (Instr.next (.pointer (some ⟨w.heap.size, 0, none⟩)) true ty).run Tryd.prog (w.iter s s.size) = _ := fun ty => run_next_end w s s.size ty hp
        have hz : digitsE s = 0 := by
          unfold digitsE
          rw [if_neg (by omega), allDig_of s (fun i h => hall.out i h h)]
          rfl
        have HZ := Lib.hid hz
        clear hz
        go_wp2
        go_ret
        exact ⟨ret_int HZ.out.symm, below_iter _ _ _⟩

/-! ### Rest -/
def restL (l : List UInt8) : Int := l.foldl (fun n c => (n * 10 + ((c.toNat : Int) - 48)) % 97) 0
theorem restL_snoc (l : List UInt8) (c : UInt8) : restL (l ++ [c]) = (restL l * 10 + ((c.toNat : Int) - 48)) % 97 := by
  unfold restL; rw [List.foldl_append]; rfl
theorem restL_bound (l : List UInt8) : 0 ≤ restL l ∧ restL l < 97 := by
  rcases List.eq_nil_or_concat l with rfl | ⟨l', c, rfl⟩
  · exact ⟨by decide, by decide⟩
  · rw [List.concat_eq_append, restL_snoc]; omega
theorem rest_bad (s : ByteArray) (e : Int) (w : World) (he : digitsE s = e) (hne : (e == 0) = false) :
    Calls Tryd.prog 47 #[.string s] w fun en w' => en = .returned (.tuple #[.int .i64 0, .int .i64 e]) ∧ Below w.heap.size w w' := by
  have H := Lib.hid he
  clear he
  have hne' : (e != 0) = true := by rw [bne, hne]; rfl
  go_enter Tryd.func47, Tryd.ntmps47
  go_wp2_with (go_at_call 96; refine (digits_any s _).mono ?_; rw [H.out]; rintro e1 w1 ⟨rfl, hb⟩)
  go_ret2
  exact ⟨rfl, by assumption⟩
theorem rest_ok (s : ByteArray) (w : World) (he : digitsE s = 0) :
    Calls Tryd.prog 47 #[.string s] w fun en w' => en = .returned (.tuple #[.int .i64 (restL s.data.toList), .int .i64 0]) ∧ Below w.heap.size w w' := by
  have hs : s.size ≤ 200 ∧ allDig s = true := by
    unfold digitsE at he
    split at he
    · omega
    · split at he
      · exact ⟨by omega, by assumption⟩
      · omega
  obtain ⟨hs, hall0⟩ := hs
  have hall := Lib.hid hall0
  have H := Lib.hid he
  clear he hall0
  go_enter Tryd.func47, Tryd.ntmps47
  go_wp2_with (go_at_call 96; refine (digits_any s _).mono ?_; rw [H.out]; rintro e1 w1 ⟨rfl, hb⟩)
  have hB := Lib.hid hb
  clear hb
  go_loopw [5] (fun n w' => ∃ pos : Nat, pos ≤ s.size ∧ w' = w1.iter s pos ∧ n = .int .i64 (restL (s.data.toList.take pos))) (fun _ w' => s.size - w'.iterPos w1.heap.size)
  case atStart => exact ⟨0, by omega, rfl, rfl⟩
  case round =>
    obtain ⟨pos, hp0, rfl, rfl⟩ := hrel
    have hbd := restL_bound (s.data.toList.take pos)
    obtain ⟨hbd1, hbd2⟩ := hbd
    by_cases hp : pos < s.size
    · obtain ⟨hd1, hd2⟩ := allDig_at s hall.out pos hp
      have hnx : ∀ ty, (Instr.next (.pointer (some ⟨w1.heap.size, 0, none⟩)) true ty).run Tryd.prog (w1.iter s pos) = _ := fun ty => run_next_ascii w1 s pos ty hp (by omega)
      have hts := Lib.hid (take_snoc s pos hp)
      go_wp2
      go_roundw
      case rel => exact ⟨pos + 1, by omega, rfl, by rw [hts.out, restL_snoc]⟩
      case measure => simp; omega
    · obtain rfl : pos = s.size := by omega
      have hnx : ∀ ty, (Instr.next (.pointer (some ⟨w1.heap.size, 0, none⟩)) true ty).run Tryd.prog (w1.iter s s.size) = _ := fun ty => run_next_end w1 s s.size ty hp
      have ht := Lib.hid (List.take_of_length_le (l := s.data.toList) (i := s.size) (by simp))
      go_wp2
      go_ret2
      exact ⟨ret2 (congrArg restL ht.out), hB.out.trans ((below_iter w1 s s.size).mono hB.out.size)⟩
end Go.Proofs.YtccjcdecpgigpaaDoor.Chk
