/- Tokens: what slips do to their digits; opening a raw token. -/
import Derived.Test.YtccjcdecpgigpaaDoorTok4
import Derived.Test.YtccjcdecpgigpaaDoorMade
import Derived.Test.YtccjcdecpgigpaaDoorRest
import Derived.Test.YtccjcdecpgigpaaDoorWRestSwaps
import Derived.Test.YtccjcdecpgigpaaDoorOpenS
namespace Go.Proofs.YtccjcdecpgigpaaDoor.Tok
open Go.RowKit Go.Proofs.YtccjcdecpgigpaaDoor.Base Go.Proofs.YtccjcdecpgigpaaDoor.Dig Go.Proofs.YtccjcdecpgigpaaDoor.Num Go.Proofs.YtccjcdecpgigpaaDoor.Chk Go.Proofs.YtccjcdecpgigpaaDoor.Rest
set_option linter.unusedVariables false
set_option linter.unusedSimpArgs false
set_option maxRecDepth 20000
open Go.ChangeShapes Go.WideShapes Go.ChangeAt in
theorem opens_raw {H : Type} {enc : TypeId × Value → H} {W : World} : Open.Opens enc Tryd.prog W 23 (fun (t : Tk) cs => cs = t.vals.toList ∧ t.ok) := by
  refine Open.opens_struct Tryd.underlying23 fun cs hl hf => ?_
  rw [show Tryd.prog.cellsOf 23 = 4 by kernel_rfl] at hl
  match cs, hl with
  | [c0, c1, c2, c3], _ =>
    obtain ⟨x0, e0, f0⟩ := Open.fld hf 0 rfl 0 1 rfl rfl (by kernel_rfl) (Open.opens_int Tryd.underlying3)
    obtain ⟨x1, e1, f1⟩ := Open.fld hf 1 rfl 1 1 rfl rfl (by kernel_rfl) (Open.opens_int Tryd.underlying3)
    obtain ⟨x2, e2, f2⟩ := Open.fld hf 2 rfl 2 1 rfl rfl (by kernel_rfl) (Open.opens_int Tryd.underlying3)
    obtain ⟨x3, e3, f3⟩ := Open.fld hf 3 rfl 3 1 rfl rfl (by kernel_rfl) (Open.opens_int Tryd.underlying3)
    simp at e0 e1 e2 e3
    subst e0 e1 e2 e3
    exact ⟨⟨x0, x1, x2, x3⟩, rfl, ⟨i64_bound f0, i64_bound f1⟩, i64_bound f2, i64_bound f3⟩
theorem parse_full (s : ByteArray) (w : World) : Calls Tryd.prog 18 #[.string s] w fun e w' => e = .returned (.tuple #[.agg (parseT s.data.toList).vals, .int .i64 (parseE s.data.toList)]) ∧ Below w.heap.size w w' := by
  by_cases h : s.size = 20
  · exact parse_any s h w
  · have e1 : parseE s.data.toList = 6 := by
      unfold parseE
      rw [if_pos]
      rw [bytes_len]
      exact h
    have e2 : (parseT s.data.toList).vals = noT := by
      unfold parseT
      rw [if_neg (by rw [e1]; decide)]
      rfl
    rw [e1, e2]
    exact parse_len s h w
theorem all_dig {s : ByteArray} : allDig s = true ↔ ∀ c ∈ s.data.toList, isDig c = true := by
  unfold allDig
  rw [List.all_eq_true]
  exact Iff.rfl
theorem rest_val (l : List UInt8) (h : ∀ c ∈ l, isDig c = true) : restL l = ((valL l % 97 : Nat) : Int) := by
  induction l using snoc_ind with
  | h0 => rfl
  | hs m c ih =>
    have hc := h c (by simp)
    unfold isDig at hc
    simp only [Bool.and_eq_true, decide_eq_true_eq] at hc
    rw [restL_snoc, valL_snoc, ih (fun d hd => h d (by simp [hd]))]
    omega
theorem fmtS_dig (t : Tk) : allDig (fmtS t) = true := all_dig.2 (by rw [fmtS_list]; exact fmt_dig _)
theorem fmtS_rest (t : Tk) : restL (fmtS t).data.toList = 0 := by
  rw [rest_val _ (all_dig.1 (fmtS_dig t)), fmtS_list, fmt_val]
  omega
/-- Twenty digits whose rest is not nought are told. -/
theorem told (s : ByteArray) (h1 : s.size = 20) (h2 : allDig s = true) (h3 : restL s.data.toList ≠ 0) : parseE s.data.toList = 8 ∨ parseE s.data.toList = 2 := by
  refine parse_slip (by rw [bytes_len]; exact h1) (all_dig.1 h2) ?_
  rw [rest_val _ (all_dig.1 h2)] at h3
  omega
theorem slip_told (t : Tk) (hg : faultI t = 0) (i : Nat) (hi : i < (fmtS t).size) (b : Int) (hb0 : 0 ≤ b) (hb1 : b < 9) :
    parseE (slipped (fmtS t) i (slipD ((fmtS t)[i]'hi) b).toNat).data.toList = 8 ∨ parseE (slipped (fmtS t) i (slipD ((fmtS t)[i]'hi) b).toNat).data.toList = 2 := by
  have hs := fmtS_size t hg
  obtain ⟨h1, h2⟩ := slip_plain (fmtS t) (by omega) (by omega) (fmtS_dig t) i hi b hb0 hb1
  rw [fmtS_rest] at h2
  refine told _ (by rw [slip_size _ _ _ hi]; exact hs) ?_ (fun e => h2 e.symm)
  unfold digitsE at h1
  rw [slip_size _ _ _ hi, if_neg (by omega)] at h1
  cases h : allDig (slipped (fmtS t) i (slipD ((fmtS t)[i]'hi) b).toNat)
  · rw [h] at h1; cases h1
  · rfl
theorem swap_told (t : Tk) (hg : faultI t = 0) (i far : Nat) (hf : 1 ≤ far) (hf2 : far ≤ 2) (hi : i + far < (fmtS t).size) (hne : (swapped (fmtS t) i far).toList ≠ (fmtS t).toList) :
    parseE (swapped (fmtS t) i far).data.toList = 8 ∨ parseE (swapped (fmtS t) i far).data.toList = 2 := by
  have hs := fmtS_size t hg
  have h := RestSwaps.plain (fmtS t) i far hf hf2 hi (fmtS_dig t)
  refine told _ (by rw [RestSwaps.swapped_size _ _ _ hf hi]; exact hs) (RestSwaps.swapped_dig _ _ _ hf hi (fmtS_dig t)) (fun e => ?_)
  rw [fmtS_rest, e] at h
  simp only [beq_self_eq_true] at h
  have := h.symm
  rw [beq_iff_eq] at this
  exact hne this.symm
theorem rest_twin (a b : List UInt8) (c d : UInt8) (hc : 48 ≤ c.toNat ∧ c.toNat ≤ 57) (hd : 48 ≤ d.toNat ∧ d.toNat ≤ 57) (hne : c ≠ d) :
    restL (a ++ [c] ++ [c] ++ b) ≠ restL (a ++ [d] ++ [d] ++ b) := by
  intro h
  rw [restL_append (a ++ [c] ++ [c]), restL_append (a ++ [d] ++ [d])] at h
  have hx : ((restL (a ++ [c] ++ [c]) - restL (a ++ [d] ++ [d])) * 10 ^ b.length) % 97 = 0 := by
    rw [Int.sub_mul]; omega
  have h2 := ten_pow hx
  rw [restL_snoc, restL_snoc, restL_snoc, restL_snoc] at h2
  have hcd : c.toNat = d.toNat := by omega
  exact hne (UInt8.toNat_inj.1 hcd)
end Go.Proofs.YtccjcdecpgigpaaDoor.Tok
