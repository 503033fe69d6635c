/- The contract of cell.Diff, and what its writes are. -/
import Derived.Test.YtdomipmfghnfaaaCell
namespace Go.Proofs.Ytdomipmfghnfaaa.Cell
open Go.RowKit Go.Proofs.Ytdomipmfghnfaaa.Base
set_option linter.unusedVariables false
set_option linter.unusedSimpArgs false

theorem getD_at (a : List UInt32) (k : Nat) (h : k < a.length) : a.getD k 0 = a[k] := by simp [List.getD, h]
/-- The writes of the first n places at which b is not as a. -/
def diffK (a b : List UInt32) : Nat → List Wr
  | 0 => []
  | n + 1 => diffK a b n ++ (if a.getD n 0 = b.getD n 0 then [] else [⟨n, b.getD n 0⟩])
theorem diffK_len (a b : List UInt32) : ∀ n, (diffK a b n).length ≤ n
  | 0 => by simp [diffK]
  | n + 1 => by
    have := diffK_len a b n
    simp only [diffK, List.length_append]
    split <;> simp <;> omega
theorem diffK_in (a b : List UInt32) : ∀ n, ∀ x ∈ diffK a b n, x.at_ < n ∧ a.getD x.at_ 0 ≠ x.word
  | 0 => by simp [diffK]
  | n + 1 => by
    intro x hx
    simp only [diffK, List.mem_append] at hx
    rcases hx with h | h
    · have := diffK_in a b n x h
      exact ⟨by omega, this.2⟩
    · split at h
      · simp at h
      · simp at h
        subst h
        exact ⟨by simp, by assumption⟩
theorem diffK_lt (a b : List UInt32) : ∀ n, (diffK a b n).Pairwise (fun x y => x.at_ < y.at_)
  | 0 => by simp [diffK]
  | n + 1 => by
    simp only [diffK]
    split
    · simpa using diffK_lt a b n
    · rw [List.pairwise_append]
      refine ⟨diffK_lt a b n, by simp, ?_⟩
      intro x hx y hy
      simp at hy
      subst hy
      exact (diffK_in a b n x hx).1
theorem diffK_apply (a b : List UInt32) (hl : a.length = b.length) : ∀ n, n ≤ a.length → applyL a (diffK a b n) = b.take n ++ a.drop n
  | 0, _ => by simp [diffK, applyL]
  | n + 1, h => by
    have h1 := diffK_apply a b hl n (by omega)
    have ha : a.getD n 0 = a[n]'(by omega) := getD_at _ _ _
    have hb : b.getD n 0 = b[n]'(by omega) := getD_at _ _ _
    have hd : a.drop n = a[n]'(by omega) :: a.drop (n + 1) := List.drop_eq_getElem_cons (by omega)
    have ht : b.take (n + 1) = b.take n ++ [b[n]'(by omega)] := List.take_succ_eq_append_getElem (by omega)
    simp only [diffK]
    split
    · rename_i he
      rw [ha, hb] at he
      rw [List.append_nil, h1, hd, ht, he]
      simp only [List.append_assoc, List.singleton_append]
    · have hx : (b.take n).length = n := by simp; omega
      rw [applyL_snoc, h1, hd, ht, hb]
      show (b.take n ++ a[n]'(by omega) :: a.drop (n + 1)).set n (b[n]'(by omega)) = _
      rw [List.set_append, if_neg (by omega), hx, Nat.sub_self, List.set_cons_zero]
      simp only [List.append_assoc, List.singleton_append]

theorem diff_any (a b : List UInt32) (A B : Option Addr) (c d : Nat) (w : World) (ha : RdE 1 encW w A a) (hb : RdE 1 encW w B b) (h0 : 1 ≤ a.length) (h1 : a.length ≤ 2048) (hl : a.length = b.length) :
    Calls Try.prog 31 #[.slice A a.length c, .slice B b.length d] w fun e w' => ∃ C q, e = .returned (.tuple #[.slice C (diffK a b a.length).length q, .int .i64 0]) ∧ OwWr w.heap.size w' C q (diffK a b a.length) ∧ Below w.heap.size w w' := by
  have e1 : (a.length != b.length) = false := by simp [hl]
  have e2 : ((a.length : Int) != (b.length : Int)) = false := by simp [hl]
  have HA := Lib.hid ha
  have HB := Lib.hid hb
  have HL := Lib.hid hl
  have hlb : b.length ≤ 2048 := by omega
  clear ha hb hl
  go_enter Try.func31, Try.ntmps31
  go_wp2_with ((go_at_call 40; refine (fits_yes a A c _ h0 h1).mono ?_; rintro e w' ⟨rfl, rfl⟩))
  go_loopw [6, 21] (fun v i wr => ∃ k : Nat, k ≤ b.length ∧ i = .int .i64 k ∧ wr.ownsRow w.heap.size 47 2 v (diffK a b k).length ((diffK a b k).flatMap Wr.enc) ∧ Below w.heap.size w wr) (fun _ i _ => b.length - (intOf i).toNat)
  case atStart => exact ⟨0, by omega, rfl, World.ownsRow_nil _ _ _ _, Below.refl _ _⟩
  case round =>
    obtain ⟨k, hk, rfl, hown, hbl⟩ := hrel
    have HO := Lib.hid hown
    have HW := Lib.hid hbl
    clear hown hbl
    by_cases hlt : k < b.length
    · have hka : k < a.length := by have := HL.out; omega
      obtain ⟨aa, rfl, hca⟩ := (HA.out.below HW.out).at1 k hka _ rfl
      obtain ⟨ba, rfl, hcb⟩ := (HB.out.below HW.out).at1 k hlt _ rfl
      have hki : (k : Int) < (b.length : Int) := by omega
      have hki2 : (k : Int) < (a.length : Int) := by omega
      have hk0 : (0 : Int) ≤ (k : Int) := by omega
      have ga : a.getD k 0 = a[k] := getD_at _ _ _
      have gb : b.getD k 0 = b[k] := getD_at _ _ _
      have hdl := diffK_len a b k
      have hstep : diffK a b (k + 1) = diffK a b k ++ (if a[k] = b[k] then [] else [⟨k, b[k]⟩]) := by rw [diffK, ga, gb]
      have HS := Lib.hid hstep
      clear ga gb hstep
      by_cases he : a[k] = b[k]
      · have e3 : ((a[k].toNat : Int) != (b[k].toNat : Int)) = false := by simp [he]
        have HE := Lib.hid he
        clear he
        go_wp2
        go_roundw
        case rel =>
          refine ⟨k + 1, by omega, by go_num, ?_, HW.out⟩
          rw [HS.out, if_pos HE.out, List.append_nil]
          exact HO.out
        case measure => simp [intOf]; omega
      · have e3 : ((a[k].toNat : Int) != (b[k].toNat : Int)) = true := by
          have : ¬ a[k].toNat = b[k].toNat := fun h => he (UInt32.toNat_inj.1 h)
          simp; omega
        have HE := Lib.hid he
        clear he
        go_wp2_with (at_builtin; refine app1 (w0 := w) w.heap.size rfl (.tmp 32) (.tmp 36) 44 47 (.agg #[.int .i64 0, .int .u32 0]) 2 16 rfl Try.underlying44 info_wr rfl (by decide) (by decide) _ _ _ [.int .i64 (k : Int), .int .u32 (b[k].toNat : Int)] rfl rfl rfl ?c1 HO.out HW.out HW.out.size ?c2 ?_; (case c1 => simp [Value.oneCell']); (case c2 => omega); intro v1 w1 ho1 hb1 _ _; have HO1 := Lib.hid ho1; have HB1 := Lib.hid hb1; clear ho1 hb1)
        go_roundw
        case rel =>
          refine ⟨k + 1, by omega, by go_num, ?_, HB1.out⟩
          rw [HS.out, if_neg HE.out, List.flatMap_append, List.length_append]
          exact HO1.out
        case measure => simp [intOf]; omega
    · obtain rfl : k = b.length := by omega
      have hla := HL.out
      rw [← hla] at HO
      obtain ⟨C, q, rfl, ho⟩ := OwWr.of (xs := diffK a b a.length) HO.out rfl rfl
      have HO2 := Lib.hid ho
      have HLL := Lib.hid hla
      clear hla ho
      go_wp2
      go_ret2
      exact ⟨C, q, rfl, HO2.out, HW.out⟩
end Go.Proofs.Ytdomipmfghnfaaa.Cell
