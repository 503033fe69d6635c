/- Sums of debts: Total, sumOf. -/
import Derived.Test.YtfdgjaahmbjnpaaRecover
namespace Go.Proofs.Ytfdgjaahmbjnpaa.Debt
open Go.RowKit Go.Proofs.Ytfdgjaahmbjnpaa.Base
set_option linter.unusedVariables false
set_option linter.unusedSimpArgs false
set_option maxRecDepth 20000

def sumD : List Db → Int
  | [] => 0
  | x :: t => x.a + sumD t
theorem sumD_append : ∀ a b : List Db, sumD (a ++ b) = sumD a + sumD b
  | [], b => by simp [sumD]
  | x :: a, b => by
    simp only [List.cons_append, sumD, sumD_append a b]
    omega
theorem sumD_bd : ∀ a : List Db, (∀ x ∈ a, x.ok) → 0 ≤ sumD a ∧ sumD a ≤ 1000000000 * a.length
  | [], _ => by simp [sumD]
  | x :: a, h => by
    have := sumD_bd a (fun y hy => h y (List.mem_cons_of_mem _ hy))
    have := (h x (List.mem_cons_self)).1
    simp only [sumD, List.length_cons]
    omega
theorem sumD_snoc (xs : List Db) (k : Nat) (h : k < xs.length) : sumD (xs.take (k + 1)) = sumD (xs.take k) + xs[k].a := by
  rw [List.take_succ_eq_append_getElem h, sumD_append]
  simp [sumD]
theorem rec_sum (share : Int) (h0 : 0 ≤ share) (xs : List Db) : (∀ x ∈ xs, x.ok) → sumD (recL share xs).1 + (recL share xs).2 = sumD xs ∧ (recL share xs).2 = min share (sumD xs) := by
  refine snoc_ind (P := fun xs => (∀ x ∈ xs, x.ok) → sumD (recL share xs).1 + (recL share xs).2 = sumD xs ∧ (recL share xs).2 = min share (sumD xs)) ?_ ?_ xs
  · intro _
    simp [recL, sumD]
    omega
  · intro l d ih hk
    obtain ⟨h1, h2⟩ := ih (fun x hx => hk x (List.mem_append_left _ hx))
    obtain ⟨⟨d0, d1⟩, d2, d3⟩ := hk d (by simp)
    rw [recL_snoc, sumD_append]
    unfold recStep
    split
    · simp only [sumD_append, sumD]
      omega
    · simp only [sumD]
      omega

theorem total_any (xs : List Db) (A : Option Addr) (c : Nat) (w : World) (hx : RdE 2 Db.enc w A xs) (hn : xs.length ≤ 8) (hk : ∀ x ∈ xs, x.ok) :
    Calls Try.prog 122 #[.slice A xs.length c] w fun e w' => e = .returned (.int .i64 (sumD xs)) ∧ Below w.heap.size w w' := by
  have HX := Lib.hid hx
  have HK := Lib.hid hk
  clear hx hk
  go_enter Try.func122, Try.ntmps122
  go_wp2
  go_loopw [3, 8] (fun s i wr => ∃ k : Nat, k ≤ xs.length ∧ i = .int .i64 k ∧ s = .int .i64 (sumD (xs.take k)) ∧ Below w.heap.size w wr) (fun _ i _ => xs.length - (intOf i).toNat)
  case atStart => exact ⟨0, by omega, rfl, rfl, Below.refl _ _⟩
  case round =>
    obtain ⟨k, hk, rfl, rfl, hb⟩ := hrel
    have HB := Lib.hid hb
    clear hb
    obtain ⟨b0, b1⟩ := sumD_bd (xs.take k) (fun x hx => HK.out x (List.mem_of_mem_take hx))
    have hl : (xs.take k).length ≤ 8 := by simp; omega
    by_cases hlt : k < xs.length
    · obtain ⟨ad, rfl, hc0, hc1⟩ := (HX.out.below HB.out).at2 k hlt _ _ rfl
      have hki : (k : Int) < (xs.length : Int) := by omega
      have hk0 : (0 : Int) ≤ (k : Int) := by omega
      obtain ⟨⟨x0, x1⟩, x2, x3⟩ := HK.out xs[k] (List.getElem_mem hlt)
      have HS := Lib.hid (sumD_snoc xs k hlt)
      generalize (xs.take k).length = tl at *
      generalize sumD (xs.take k) = sm at *
      go_wp2
      go_roundw
      case rel => exact ⟨k + 1, by omega, by go_num, by rw [HS.out], blw_alloc HB.out _⟩
      case measure => simp [intOf]; omega
    · obtain rfl : k = xs.length := by omega
      rw [List.take_of_length_le (Nat.le_refl _)]
      go_wp2
      go_ret
      exact ⟨rfl, HB.out⟩































theorem Total_any (xs : List Db) (A : Option Addr) (c : Nat) (w : World) (hx : RdE 2 Db.enc w A xs) (hn : xs.length ≤ 8) (hk : ∀ x ∈ xs, x.ok) :
    Calls Try.prog 104 #[.slice A xs.length c] w fun e w' => e = .returned (.tuple #[.int .i64 (sumD xs), .int .i64 0]) ∧ Below w.heap.size w w' := by
  have HX := Lib.hid hx
  have HK := Lib.hid hk
  clear hx hk
  go_enter Try.func104, Try.ntmps104
  go_wp2_with (first | (go_at_call 40; refine (fault_ok xs A c _ HX.out hn HK.out).mono ?_; rintro e w1 ⟨rfl, hb⟩; have HB1 := Lib.hid hb; clear hb) | (go_at_call 122; refine (total_any xs A c _ (HX.out.below HB1.out) hn HK.out).mono ?_; rintro e w2 ⟨rfl, hb⟩; have HB2 := Lib.hid hb; clear hb))
  go_ret2
  exact ⟨rfl, below_then' HB1.out HB2.out⟩
end Go.Proofs.Ytfdgjaahmbjnpaa.Debt
