/- Pocket: a meter behind one sale; equality of windows. -/
import Derived.Test.YtccjcdecpgigpaaDoorPock5
namespace Go.Proofs.YtccjcdecpgigpaaDoor.Pock
open Go Go.RowKit Go.Proofs.YtccjcdecpgigpaaDoor.Base Go.Proofs.YtccjcdecpgigpaaDoor.Met Go.Proofs.YtccjcdecpgigpaaDoor.Win Go.Proofs.YtccjcdecpgigpaaDoor.Cell Go.Proofs.YtccjcdecpgigpaaDoor.Orc Go.Proofs.YtccjcdecpgigpaaDoor.Tok
set_option linter.unusedVariables false
set_option linter.unusedSimpArgs false
set_option maxRecDepth 20000
theorem eql_win (a : Int) (b : Int) (w : World) : (Op.equalIn 10000 38 (.agg #[.int .i64 a, .int .u64 b]) (.agg #[.int .i64 a, .int .u64 b])).run Tryd.prog w = .ok true w := by
  simp [go_sem]
theorem one_state (me u : Int) (h0 : 0 ≤ me) (h1 : me < 50) : (pockS me [⟨0, 0, u, 0⟩]).1.cr = 1 + pk u 2097151 ∧ (pockS me [⟨0, 0, u, 0⟩]).1.lock = 0 := by
  obtain ⟨y, hy⟩ : ∃ y : Tk, y = ⟨0, 0, u, 0⟩ := ⟨_, rfl⟩
  rw [← hy]
  have hp := PInv.begin me h0 h1
  obtain ⟨p0, p1⟩ := pk_bound u 2097151 (by decide)
  have hT : tkOf (beginM me, []) y = soldT [] me 0 y := rfl
  have hg := soldT_good [] me 0 y Kept.nil.good
  have hcl : (soldT [] me 0 y).cl = 0 := by rw [hy]; rfl
  have ham : (soldT [] me 0 y).am = 1 + pk u 2097151 := by rw [hy]; rfl
  have hver := sold_ver (beginM me) y
  have hl := sold_lim [] me 0 y Kept.nil.good
  have hk := key_sold (beginM me) (psOf (beginM me, []) y) (soldT [] me 0 y) hg rfl (by rw [hcl]; decide) (by show (0 : Int) ≤ 0; omega) hver
  have ht := take_credit (beginM me) (soldT [] me 0 y) (judge_new _ hl.1.1) hcl
  rw [if_neg (by rw [ham]; show ¬ (0 + (1 + pk u 2097151) > 99999999); omega)] at ht
  have e : (pockS me [y]).1 = (keyR (beginM me) (psOf (beginM me, []) y) (soldT [] me 0 y)).1 := rfl
  rw [e, hk, ht]
  refine ⟨?_, rfl⟩
  show 0 + (soldT [] me 0 y).am = _
  rw [ham]; omega
theorem add_zero_off (g j : Nat) : (⟨g, 0, none⟩ : Addr).add j = ⟨g, j, none⟩ := by cases j <;> simp [Addr.add]
theorem rd_raw {w : World} {g : Nat} {x : Tk} (h : Cs w g x.vals.toList) : RdE 4 (fun t : Tk => t.vals.toList) w (some ⟨g, 0, none⟩) [x] :=
  ⟨by simp, fun _ => ⟨_, rfl, fun i y hy j u hu => by
    cases i with
    | succ i => simp at hy
    | zero =>
      simp at hy
      subst hy
      have := (h.2 j u hu).1
      have e : (⟨g, 0, none⟩ : Addr).add (0 * 4 + j) = ⟨g, j, none⟩ := by rw [Nat.zero_mul, Nat.zero_add]; exact add_zero_off g j
      rw [e]; exact this⟩⟩
theorem tick_eq (m : Mt) (ld : Int) (h : m.lock = 0) (hz : min ld m.cr = 0) : tickM m ld = m := by
  unfold tickM
  rw [hz, h]
  cases m
  simp only at h
  subst h
  simp
  omega
theorem moved_full {c : List UInt32} {s : Nat} {old next : Mt} (h : old ≠ next) : (movedW c s old next).length = 7 := by
  unfold movedW
  rw [if_neg (fun e => h ((eqM_iff old next).1 e)), storeW_len]
  rfl
end Go.Proofs.YtccjcdecpgigpaaDoor.Pock
