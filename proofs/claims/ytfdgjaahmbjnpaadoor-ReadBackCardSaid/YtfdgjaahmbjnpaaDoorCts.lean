/- Contracts: cents.within, cents.Show. -/
import Derived.Test.YtfdgjaahmbjnpaaDoorLay
import Derived.Test.YtfdgjaahmbjnpaaDoorCtsP
import Derived.Test.YtfdgjaahmbjnpaaDoorShelf
import Derived.Shelf.Strconv.Itoa3
namespace Go.Proofs.YtfdgjaahmbjnpaaDoor.Cts
open Go Go.RowKit Go.Proofs.YtfdgjaahmbjnpaaDoor.Base Go.Proofs.YtfdgjaahmbjnpaaDoor.Lay Go.Proofs.YtfdgjaahmbjnpaaDoor.Dec
set_option linter.unusedVariables false
set_option linter.unusedSimpArgs false
set_option maxRecDepth 20000
theorem within_yes (n lo hi : Int) (w : World) (h0 : lo ≤ n) (h1 : n ≤ hi) :
    Calls Tryd.prog 19 #[.int .i64 n, .int .i64 lo, .int .i64 hi] w fun e w' => e = .returned (.bool true) ∧ w = w' := by
  go_enter Tryd.func19, Tryd.ntmps19
  go_wp2
  go_ret
  exact ⟨rfl, rfl⟩
def bs (l : List UInt8) : ByteArray := ⟨l.toArray⟩
theorem bs_list (l : List UInt8) : (bs l).data.toList = l := rfl
theorem bs_inj {a b : ByteArray} (h : a.data.toList = b.data.toList) : a = b := bytes_ext h
theorem itoa_nat (n : Int) (h : 0 ≤ n) : Lib.itoa n = Lib.decDigits n.natAbs := by
  unfold Lib.itoa
  rw [if_neg (by omega)]
  congr 1
  omega
theorem grow_below (w : World) (k : Nat) (os : Array Obj) : Below w.heap.size w (Go.Sort.grow (w.drewN k) os) :=
  ⟨rfl, rfl, rfl, by show w.heap.size ≤ (w.heap ++ os).size; rw [Array.size_append]; omega, fun j hj => by show (w.heap ++ os)[j]? = w.heap[j]?; exact Array.getElem?_append_left hj⟩
theorem itoa_any (n : Int) (h0 : -9223372036854775808 ≤ n) (h1 : n ≤ 9223372036854775807) (w : World) (h : Tb w) :
    Calls Tryd.prog 20 #[.int .i64 n] w fun e w' => e = .returned (.string ⟨(Lib.itoa n).toArray⟩) ∧ Below w.heap.size w w' :=
  (Tryd.strconv_Itoa n h0 h1 w h).mono fun e w' ⟨he, hw⟩ => ⟨he, by first | exact hw | (obtain ⟨k, os, rfl⟩ := hw; exact grow_below _ _ _)⟩
theorem trim_body (l : List UInt8) : Lib.trimPrefix l [45] = bodyL l ∧ Lib.hasPrefix l [45] = belowB l := by
  cases l with
  | nil => exact ⟨rfl, rfl⟩
  | cons x t =>
    have e : Lib.hasPrefix (x :: t) [45] = belowB (x :: t) := by
      unfold Lib.hasPrefix belowB
      simp only [List.isPrefixOf, List.head?_cons, Bool.and_true]
      by_cases h : x = 45
      · subst h; rfl
      · rw [beq_eq_false_iff_ne.mpr (fun e => h e.symm), beq_eq_false_iff_ne.mpr (fun e => h (by simpa using e))]
    refine ⟨?_, e⟩
    unfold Lib.trimPrefix bodyL
    rw [e]
    rfl
theorem prefix_dash (s : ByteArray) (w : World) :
    Calls Tryd.prog 21 #[.string s, .string ⟨#[45]⟩] w fun e w' => e = .returned (.tuple #[.string (bs (bodyL s.data.toList)), .bool (belowB s.data.toList)]) ∧ w = w' :=
  (Tryd.strings_CutPrefix s ⟨#[45]⟩ w).mono fun e w' ⟨he, hw⟩ => ⟨by rw [he, show (⟨#[45]⟩ : ByteArray).data.toList = [45] from rfl, (trim_body _).1, (trim_body _).2]; rfl, by first | exact hw.symm | exact hw⟩
theorem cut_dot (s : ByteArray) (w : World) (h : Mx w) (hs : s.size < 4294967281) :
    Calls Tryd.prog 22 #[.string s, .string ⟨#[46]⟩] w fun e w' => e = .returned (.tuple #[.string (bs (cutL 46 s.data.toList).1), .string (bs (cutL 46 s.data.toList).2.1), .bool (cutL 46 s.data.toList).2.2]) ∧ Below w.heap.size w w' := by
  obtain ⟨m, hm⟩ := h
  refine (Tryd.strings_Cut s ⟨#[46]⟩ m w hs hm).mono fun e w' ⟨he, hw⟩ => ⟨?_, ?_⟩
  · rw [he, show (⟨#[46]⟩ : ByteArray).data.toList = [46] from rfl, cut_one]
    rfl
  · first | exact hw | (obtain ⟨n, rfl⟩ := hw; exact blw_drewN _ _ _)
theorem bs_size (l : List UInt8) : (bs l).size = l.length := by rw [← bytes_len, bs_list]
end Go.Proofs.YtfdgjaahmbjnpaaDoor.Cts
