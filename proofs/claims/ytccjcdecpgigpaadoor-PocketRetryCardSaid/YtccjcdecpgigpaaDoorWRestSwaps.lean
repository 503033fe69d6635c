/- The walk of RestSwaps. -/
import Derived.Test.YtccjcdecpgigpaaDoorRest
namespace Go.Proofs.YtccjcdecpgigpaaDoor.RestSwaps
open Go.RowKit Go.Proofs.YtccjcdecpgigpaaDoor.Base Go.Proofs.YtccjcdecpgigpaaDoor.Num Go.Proofs.YtccjcdecpgigpaaDoor.Chk Go.Proofs.YtccjcdecpgigpaaDoor.Rest
set_option linter.unusedVariables false
set_option linter.unusedSimpArgs false
set_option maxRecDepth 20000

theorem split3 (s : ByteArray) (i far : Nat) (hf : 1 ≤ far) (hi : i + far < s.size) :
    s.data.toList = s.data.toList.take i ++ [s[i]'(by omega)] ++ ((s.data.toList.take (i + far)).drop (i + 1)) ++ [s[i + far]'hi] ++ s.data.toList.drop (i + far + 1) := by
  have h1 := bytes_split s (i + far) hi
  have h2 : s.data.toList.take (i + far) = s.data.toList.take i ++ [s[i]'(by omega)] ++ (s.data.toList.take (i + far)).drop (i + 1) := by
    have h3 : (s.data.toList.take (i + far)).take (i + 1) = s.data.toList.take i ++ [s[i]'(by omega)] := by
      rw [List.take_take, Nat.min_eq_left (by omega)]
      exact take_snoc s i (by omega)
    rw [← h3, List.take_append_drop]
  conv => lhs; rw [h1, h2]
theorem one_byte (s : ByteArray) (i : Nat) (hi : i < s.size) : (s.extract i (i + 1)).data.toList = [s[i]'hi] := by
  rw [bytes_extract, take_snoc s i hi, List.drop_append_of_le_length (by simp; omega)]
  simp
theorem swapped_list (s : ByteArray) (i far : Nat) (hf : 1 ≤ far) (hi : i + far < s.size) :
    (swapped s i far).data.toList = s.data.toList.take i ++ [s[i + far]'hi] ++ ((s.data.toList.take (i + far)).drop (i + 1)) ++ [s[i]'(by omega)] ++ s.data.toList.drop (i + far + 1) := by
  unfold swapped
  rw [bytes_append, bytes_append, bytes_append, bytes_append, one_byte s (i + far) hi, one_byte s i (by omega), bytes_extract, bytes_extract, bytes_extract]
  rw [List.take_of_length_le (l := s.data.toList) (i := s.size) (by simp)]
  simp
theorem swapped_dig (s : ByteArray) (i far : Nat) (hf : 1 ≤ far) (hi : i + far < s.size) (hd : allDig s = true) : allDig (swapped s i far) = true := by
  unfold allDig at hd ⊢
  rw [List.all_eq_true] at hd ⊢
  intro x hx
  apply hd
  rw [swapped_list s i far hf hi] at hx
  rw [split3 s i far hf hi]
  simp only [List.mem_append, List.mem_singleton] at hx ⊢
  rcases hx with (((hx | hx) | hx) | hx) | hx <;> simp [hx]
theorem swapped_size (s : ByteArray) (i far : Nat) (hf : 1 ≤ far) (hi : i + far < s.size) : (swapped s i far).size = s.size := by
  have hl : s.data.toList.length = s.size := bytes_len s
  rw [← bytes_len, swapped_list s i far hf hi]
  simp
  omega
theorem plain (s : ByteArray) (i far : Nat) (hf : 1 ≤ far) (hf2 : far ≤ 2) (hi : i + far < s.size) (hd : allDig s = true) :
    (restL s.data.toList == restL (swapped s i far).data.toList) = (s.toList == (swapped s i far).toList) := by
  rw [ByteArray.toList_eq, ByteArray.toList_eq]
  obtain ⟨a0, a1⟩ := allDig_at s hd i (by omega)
  obtain ⟨b0, b1⟩ := allDig_at s hd (i + far) hi
  rw [swapped_list s i far hf hi]
  have hs := split3 s i far hf hi
  have hm : ((s.data.toList.take (i + far)).drop (i + 1)).length = far - 1 := by simp; omega
  generalize hA : s.data.toList.take i = A at *
  generalize hM : (s.data.toList.take (i + far)).drop (i + 1) = M at *
  generalize hZ : s.data.toList.drop (i + far + 1) = Z at *
  generalize hx : s[i]'(by omega) = x at *
  generalize hy : s[i + far]'hi = y at *
  rw [hs]
  rw [Bool.eq_iff_iff, beq_iff_eq, beq_iff_eq]
  constructor
  · intro h
    rw [restL_append (A ++ [x] ++ M ++ [y]), restL_append (A ++ [y] ++ M ++ [x])] at h
    have h1 : ((restL (A ++ [x] ++ M ++ [y]) - restL (A ++ [y] ++ M ++ [x])) * 10 ^ Z.length) % 97 = 0 := by rw [Int.sub_mul]; omega
    have h2 := ten_pow h1
    rw [restL_snoc, restL_snoc, restL_append (A ++ [x]), restL_append (A ++ [y]), restL_snoc, restL_snoc, hm] at h2
    have hxy : x = y := by
      have hfar : far = 1 ∨ far = 2 := by omega
      rcases hfar with rfl | rfl
      · simp at h2
        exact UInt8.toNat_inj.1 (by omega)
      · simp at h2
        exact UInt8.toNat_inj.1 (by omega)
    rw [hxy]
  · intro h
    rw [h]



































































end Go.Proofs.YtccjcdecpgigpaaDoor.RestSwaps
