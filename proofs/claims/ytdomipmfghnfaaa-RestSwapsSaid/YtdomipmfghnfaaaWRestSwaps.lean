/- The walk of RestSwaps. -/
import Derived.Test.YtdomipmfghnfaaaRest
namespace Go.Proofs.Ytdomipmfghnfaaa.RestSwaps
open Go.RowKit Go.Proofs.Ytdomipmfghnfaaa.Base Go.Proofs.Ytdomipmfghnfaaa.Num Go.Proofs.Ytdomipmfghnfaaa.Chk Go.Proofs.Ytdomipmfghnfaaa.Rest
set_option linter.unusedVariables false
set_option linter.unusedSimpArgs false

theorem split3 (s : ByteArray) (i far : Nat) (hf : 1 ≤ far) (hi : i + far < s.size) :
    s.data.toList = s.data.toList.take i ++ [s[i]'(by omega)] ++ ((s.data.toList.take (i + far)).drop (i + 1)) ++ [s[i + far]'hi] ++ s.data.toList.drop (i + far + 1) := by
  have h1 := bytes_split s (i + far) hi
  have h2 : s.data.toList.take (i + far) = s.data.toList.take i ++ [s[i]'(by omega)] ++ (s.data.toList.take (i + far)).drop (i + 1) := by
    have h3 : (s.data.toList.take (i + far)).take (i + 1) = s.data.toList.take i ++ [s[i]'(by omega)] := by
      rw [List.take_take, Nat.min_eq_left (by omega)]
      exact take_snoc s i (by omega)
    rw [← h3, List.take_append_drop]
  conv => lhs; rw [h1, h2]
theorem one_byte (s : ByteArray) (i : Nat) (hi : i < s.size) : (s.extract i (i + 1)).data.toList = [s[i]'hi] := by
  rw [bytes_extract, take_snoc s i hi, List.drop_append_of_le_length (by simp; omega)]
  simp
theorem swapped_list (s : ByteArray) (i far : Nat) (hf : 1 ≤ far) (hi : i + far < s.size) :
    (swapped s i far).data.toList = s.data.toList.take i ++ [s[i + far]'hi] ++ ((s.data.toList.take (i + far)).drop (i + 1)) ++ [s[i]'(by omega)] ++ s.data.toList.drop (i + far + 1) := by
  unfold swapped
  rw [bytes_append, bytes_append, bytes_append, bytes_append, one_byte s (i + far) hi, one_byte s i (by omega), bytes_extract, bytes_extract, bytes_extract]
  rw [List.take_of_length_le (l := s.data.toList) (i := s.size) (by simp)]
  simp
theorem swapped_dig (s : ByteArray) (i far : Nat) (hf : 1 ≤ far) (hi : i + far < s.size) (hd : allDig s = true) : allDig (swapped s i far) = true := by
  unfold allDig at hd ⊢
  rw [List.all_eq_true] at hd ⊢
  intro x hx
  apply hd
  rw [swapped_list s i far hf hi] at hx
  rw [split3 s i far hf hi]
  simp only [List.mem_append, List.mem_singleton] at hx ⊢
  rcases hx with (((hx | hx) | hx) | hx) | hx <;> simp [hx]
theorem swapped_size (s : ByteArray) (i far : Nat) (hf : 1 ≤ far) (hi : i + far < s.size) : (swapped s i far).size = s.size := by
  have hl : s.data.toList.length = s.size := bytes_len s
  rw [← bytes_len, swapped_list s i far hf hi]
  simp
  omega
theorem plain (s : ByteArray) (i far : Nat) (hf : 1 ≤ far) (hf2 : far ≤ 2) (hi : i + far < s.size) (hd : allDig s = true) :
    (restL s.data.toList == restL (swapped s i far).data.toList) = (s.toList == (swapped s i far).toList) := by
  rw [ByteArray.toList_eq, ByteArray.toList_eq]
  obtain ⟨a0, a1⟩ := allDig_at s hd i (by omega)
  obtain ⟨b0, b1⟩ := allDig_at s hd (i + far) hi
  rw [swapped_list s i far hf hi]
  have hs := split3 s i far hf hi
  have hm : ((s.data.toList.take (i + far)).drop (i + 1)).length = far - 1 := by simp; omega
  generalize hA : s.data.toList.take i = A at *
  generalize hM : (s.data.toList.take (i + far)).drop (i + 1) = M at *
  generalize hZ : s.data.toList.drop (i + far + 1) = Z at *
  generalize hx : s[i]'(by omega) = x at *
  generalize hy : s[i + far]'hi = y at *
  rw [hs]
  rw [Bool.eq_iff_iff, beq_iff_eq, beq_iff_eq]
  constructor
  · intro h
    rw [restL_append (A ++ [x] ++ M ++ [y]), restL_append (A ++ [y] ++ M ++ [x])] at h
    have h1 : ((restL (A ++ [x] ++ M ++ [y]) - restL (A ++ [y] ++ M ++ [x])) * 10 ^ Z.length) % 97 = 0 := by rw [Int.sub_mul]; omega
    have h2 := ten_pow h1
    rw [restL_snoc, restL_snoc, restL_append (A ++ [x]), restL_append (A ++ [y]), restL_snoc, restL_snoc, hm] at h2
    have hxy : x = y := by
      have hfar : far = 1 ∨ far = 2 := by omega
      rcases hfar with rfl | rfl
      · simp at h2
        exact UInt8.toNat_inj.1 (by omega)
      · simp at h2
        exact UInt8.toNat_inj.1 (by omega)
    rw [hxy]
  · intro h
    rw [h]

theorem walk (raw : List UInt8) (A : Option Addr) (c : Nat) (at_ far_ : Int) (w : World) (hr : RdE 1 encB w A raw)
    (w1 : (Lit.int .i64 at_).wf = true) (w2 : (Lit.int .i64 far_).wf = true) :
    Calls Try.prog 6 #[.slice A raw.length c, .int .i64 at_, .int .i64 far_] w fun e w' => e = .returned (.bool true) ∧ Below w.heap.size w w' := by
  obtain ⟨a0, a1⟩ := i64_bound w1
  obtain ⟨b0, b1⟩ := i64_bound w2
  clear w1 w2
  obtain ⟨q0, q1⟩ := pk_bound far_ 2 (by decide)
  obtain ⟨p, hp⟩ := Int.eq_ofNat_of_zero_le q0
  have hp1 : p ≤ 1 := by omega
  obtain ⟨S, hS⟩ : ∃ S, S = numerals raw 200 := ⟨_, rfl⟩
  obtain ⟨s0, s1⟩ := numerals_size raw 200 (by decide)
  have hd := numerals_dig raw 200
  rw [← hS] at s0 s1 hd
  -- the text that is used
  obtain ⟨T, hT⟩ : ∃ T : ByteArray, T = (if S.size ≤ 1 + p then ⟨#[48, 49, 50]⟩ else S) := ⟨_, rfl⟩
  have hTd : allDig T = true ∧ 1 + p < T.size ∧ T.size ≤ 200 := by
    rw [hT]
    split
    · exact ⟨by decide, by show 1 + p < 3; omega, by decide⟩
    · exact ⟨hd, by omega, s1⟩
  obtain ⟨t0, t1, t2⟩ := hTd
  obtain ⟨r0, r1⟩ := pk_bound at_ (T.size - (1 + p : Nat)) (by omega)
  obtain ⟨i, hi0⟩ := Int.eq_ofNat_of_zero_le r0
  have hi : i + (1 + p) < T.size := by omega
  have ePl := plain T i (1 + p) (by omega) (by omega) hi t0
  have e1 := digitsE_ok T (by omega) t2 t0
  have e2 := digitsE_ok (swapped T i (1 + p)) (by rw [swapped_size T i (1 + p) (by omega) hi]; omega) (by rw [swapped_size T i (1 + p) (by omega) hi]; omega) (swapped_dig T i (1 + p) (by omega) hi t0)
  have hsw := fun w => swapped_any T at_ (1 + p) w (by omega) (by omega) a0 a1 i hi hi0
  rw [show (((1 + p : Nat) : Nat) : Int) = 1 + (p : Int) by omega] at hsw
  have hpk := fun w => picked_any far_ 2 w b0 b1 (by decide)
  rw [hp] at hpk
  generalize swapped T i (1 + p) = U at *
  have HS := Lib.hid hS
  have E1 := Lib.hid e1
  have E2 := Lib.hid e2
  have HR := Lib.hid hr
  have SW := Lib.hid hsw
  have PK := Lib.hid hpk
  have EP := Lib.hid ePl
  have HT := Lib.hid hT
  clear hS hi0 e1 e2 hr hsw hpk ePl hp q0 q1 r0 r1 hT
  by_cases hl : S.size ≤ 1 + p
  all_goals
    have hT' := HT.out
    first | rw [if_pos hl] at hT' | rw [if_neg hl] at hT'
    clear HT
    subst hT'
    go_enter Try.func6, Try.ntmps6
    go_wp2_with (first | (go_at_call 18; refine (numerals_at raw 200 _ A c _ HR.out rfl (by decide) (by decide)).mono ?_; rw [← HS.out]; rintro e wa ⟨rfl, hba⟩; have HBA := Lib.hid hba; clear hba) | (go_at_call 15; refine (PK.out _).mono ?_; rintro e w' ⟨rfl, rfl⟩))
    refine (SW.out _).mono ?_
    rintro e wb ⟨rfl, hbb⟩
    have HBB := Lib.hid hbb
    clear hbb
    go_wp2_with fail
    refine (rest_ok _ _ E1.out).mono ?_
    rintro e wc ⟨rfl, hbc⟩
    have HBC := Lib.hid hbc
    clear hbc
    go_wp2_with fail
    refine (rest_ok _ _ E2.out).mono ?_
    rintro e wd ⟨rfl, hbd⟩
    have HBD := Lib.hid hbd
    clear hbd
    go_wp2
    go_ret
    exact ⟨ret_bool (by rw [EP.out]; simp), below_then' (below_then' (below_then' HBA.out HBB.out) (HBC.out)) (HBD.out)⟩
end Go.Proofs.Ytdomipmfghnfaaa.RestSwaps
