/- Contracts of package book: fields, check. -/
import Derived.Test.YtjlihpbnhojdgaaEv
import Derived.Laws.StructEq
namespace Go.Proofs.Ytjlihpbnhojdgaa.Ev
open Go.RowKit Go.Proofs.Ytjlihpbnhojdgaa.Base Go.Proofs.Ytjlihpbnhojdgaa.Rcv
set_option linter.unusedVariables false
set_option linter.unusedSimpArgs false
set_option maxRecDepth 20000
structure Ev where
  k : Int
  me : Int
  mo : Int
  id : Int
  te : Int
  de : Int
  fe : Int
  pr : Int
  ch : Int
  un : Int
  tag : Int
  ow : Int
  bp : Int
  deriving DecidableEq
def Ev.l (v : Ev) : List Value := [.int .i64 v.k, .int .i64 v.me, .int .i64 v.mo, .int .i64 v.id, .int .i64 v.te, .int .i64 v.de, .int .i64 v.fe, .int .i64 v.pr, .int .i64 v.ch, .int .i64 v.un, .int .i64 v.tag, .int .i64 v.ow, .int .i64 v.bp]
def Ev.ok (v : Ev) : Prop := (-9223372036854775808 ≤ v.k ∧ v.k ≤ 9223372036854775807) ∧ (-9223372036854775808 ≤ v.me ∧ v.me ≤ 9223372036854775807) ∧ (-9223372036854775808 ≤ v.mo ∧ v.mo ≤ 9223372036854775807) ∧ (-9223372036854775808 ≤ v.id ∧ v.id ≤ 9223372036854775807) ∧ (-9223372036854775808 ≤ v.te ∧ v.te ≤ 9223372036854775807) ∧ (-9223372036854775808 ≤ v.de ∧ v.de ≤ 9223372036854775807) ∧ (-9223372036854775808 ≤ v.fe ∧ v.fe ≤ 9223372036854775807) ∧ (-9223372036854775808 ≤ v.pr ∧ v.pr ≤ 9223372036854775807) ∧ (-9223372036854775808 ≤ v.ch ∧ v.ch ≤ 9223372036854775807) ∧ (-9223372036854775808 ≤ v.un ∧ v.un ≤ 9223372036854775807) ∧ (-9223372036854775808 ≤ v.tag ∧ v.tag ≤ 9223372036854775807) ∧ (-9223372036854775808 ≤ v.ow ∧ v.ow ≤ 9223372036854775807) ∧ (-9223372036854775808 ≤ v.bp ∧ v.bp ≤ 9223372036854775807)
def ids (v : Ev) : Prop := (1 ≤ v.id ∧ v.id ≤ 1048575) ∧ 0 ≤ v.tag ∧ v.tag ≤ 65535
def noBill (v : Ev) : Prop := v.te = 0 ∧ v.de = 0 ∧ v.fe = 0 ∧ v.pr = 0 ∧ v.ch = 0
def okE (v : Ev) : Prop := (0 ≤ v.me ∧ v.me ≤ 49) ∧
  ((v.k = 1 ∧ v.mo = 0 ∧ v.id = 0 ∧ noBill v ∧ v.un = 0 ∧ v.tag = 0 ∧ v.ow = 0 ∧ v.bp = 0)
  ∨ (v.k = 2 ∧ (0 ≤ v.de ∧ 0 ≤ v.fe ∧ 0 ≤ v.pr ∧ 0 ≤ v.ch) ∧ (1 ≤ v.te ∧ v.te ≤ 100000000) ∧ (v.de ≤ 100000000 ∧ v.fe ≤ 100000000 ∧ v.pr ≤ 100000000 ∧ v.ch ≤ 100000000) ∧ v.te = v.de + v.fe + v.pr + v.ch ∧ (1 ≤ v.un ∧ v.un ≤ 2097151) ∧ (0 ≤ v.mo ∧ v.mo ≤ 2399) ∧ ids v ∧ v.ow = 0 ∧ v.bp = 0)
  ∨ (v.k = 3 ∧ (1 ≤ v.un ∧ v.un ≤ 2097151) ∧ (0 ≤ v.mo ∧ v.mo ≤ 2399) ∧ ids v ∧ noBill v ∧ v.ow = 0 ∧ v.bp = 0)
  ∨ (v.k = 4 ∧ v.mo = 0 ∧ ids v ∧ noBill v ∧ v.un = 0 ∧ v.ow = 0 ∧ v.bp = 0)
  ∨ (v.k = 5 ∧ (1 ≤ v.ow ∧ v.ow ≤ 1000000000) ∧ (0 ≤ v.bp ∧ v.bp ≤ 10000) ∧ v.mo = 0 ∧ v.id = 0 ∧ noBill v ∧ v.un = 0 ∧ v.tag = 0))
noncomputable instance (v : Ev) : Decidable (okE v) := Classical.propDecidable _
theorem fields_any (p : Nat) (w : World) : Calls Try.prog 60 #[.pointer (some ⟨p, 0, none⟩)] w fun e w' => e = .returned (.agg #[.pointer (some ⟨p, 0, none⟩), .pointer (some ⟨p, 1, none⟩), .pointer (some ⟨p, 2, none⟩), .pointer (some ⟨p, 3, none⟩), .pointer (some ⟨p, 4, none⟩), .pointer (some ⟨p, 5, none⟩), .pointer (some ⟨p, 6, none⟩), .pointer (some ⟨p, 7, none⟩), .pointer (some ⟨p, 8, none⟩), .pointer (some ⟨p, 9, none⟩), .pointer (some ⟨p, 10, none⟩), .pointer (some ⟨p, 11, none⟩), .pointer (some ⟨p, 12, none⟩)]) ∧ Below w.heap.size w w' := by
  go_enter Try.func60, Try.ntmps60
  go_wp2_with fail
  go_region
  go_wp2_with fail
  refine bodyPost_ret (v := .agg #[.pointer (some ⟨p, 0, none⟩), .pointer (some ⟨p, 1, none⟩), .pointer (some ⟨p, 2, none⟩), .pointer (some ⟨p, 3, none⟩), .pointer (some ⟨p, 4, none⟩), .pointer (some ⟨p, 5, none⟩), .pointer (some ⟨p, 6, none⟩), .pointer (some ⟨p, 7, none⟩), .pointer (some ⟨p, 8, none⟩), .pointer (some ⟨p, 9, none⟩), .pointer (some ⟨p, 10, none⟩), .pointer (some ⟨p, 11, none⟩), .pointer (some ⟨p, 12, none⟩)]) (by simp [results, Try.results60, go_sem]) rfl ⟨rfl, (Base.blw_alloc (Below.refl _ _) _).drew⟩
theorem eql_ev (a0 a1 a2 a3 a4 a5 a6 a7 a8 a9 a10 a11 a12 b0 b1 b2 b3 b4 b5 b6 b7 b8 b9 b10 b11 b12 : Int) (w : World) : (Op.equalIn 10000 78 (.agg #[.int .i64 a0, .int .i64 a1, .int .i64 a2, .int .i64 a3, .int .i64 a4, .int .i64 a5, .int .i64 a6, .int .i64 a7, .int .i64 a8, .int .i64 a9, .int .i64 a10, .int .i64 a11, .int .i64 a12]) (.agg #[.int .i64 b0, .int .i64 b1, .int .i64 b2, .int .i64 b3, .int .i64 b4, .int .i64 b5, .int .i64 b6, .int .i64 b7, .int .i64 b8, .int .i64 b9, .int .i64 b10, .int .i64 b11, .int .i64 b12])).run Try.prog w = .ok (decide (a0 = b0 ∧ a1 = b1 ∧ a2 = b2 ∧ a3 = b3 ∧ a4 = b4 ∧ a5 = b5 ∧ a6 = b6 ∧ a7 = b7 ∧ a8 = b8 ∧ a9 = b9 ∧ a10 = b10 ∧ a11 = b11 ∧ a12 = b12)) w := by
  simp only [Bool.decide_and]
  simp [go_sem]
  by_cases h : a0 = b0
  case neg => simp [h]
  case pos =>
  subst h
  simp only [if_true, decide_true, Bool.true_and]
  by_cases h : a1 = b1
  case neg => simp [h]
  case pos =>
  subst h
  simp only [if_true, decide_true, Bool.true_and]
  by_cases h : a2 = b2
  case neg => simp [h]
  case pos =>
  subst h
  simp only [if_true, decide_true, Bool.true_and]
  by_cases h : a3 = b3
  case neg => simp [h]
  case pos =>
  subst h
  simp only [if_true, decide_true, Bool.true_and]
  by_cases h : a4 = b4
  case neg => simp [h]
  case pos =>
  subst h
  simp only [if_true, decide_true, Bool.true_and]
  by_cases h : a5 = b5
  case neg => simp [h]
  case pos =>
  subst h
  simp only [if_true, decide_true, Bool.true_and]
  by_cases h : a6 = b6
  case neg => simp [h]
  case pos =>
  subst h
  simp only [if_true, decide_true, Bool.true_and]
  by_cases h : a7 = b7
  case neg => simp [h]
  case pos =>
  subst h
  simp only [if_true, decide_true, Bool.true_and]
  by_cases h : a8 = b8
  case neg => simp [h]
  case pos =>
  subst h
  simp only [if_true, decide_true, Bool.true_and]
  by_cases h : a9 = b9
  case neg => simp [h]
  case pos =>
  subst h
  simp only [if_true, decide_true, Bool.true_and]
  by_cases h : a10 = b10
  case neg => simp [h]
  case pos =>
  subst h
  simp only [if_true, decide_true, Bool.true_and]
  by_cases h : a11 = b11
  case neg => simp [h]
  case pos =>
  subst h
  simp only [if_true, decide_true, Bool.true_and]
  by_cases h : a12 = b12
  case neg => simp [h]
  case pos =>
  subst h
  simp only [if_true, decide_true, Bool.true_and]
end Go.Proofs.Ytjlihpbnhojdgaa.Ev
