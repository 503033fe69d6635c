/- Contracts: tariff.asked, Bill, Price, Most. -/
import Derived.Test.YtjfjmlcibhdilaaPieces
import Derived.Shelf.Abstract
namespace Go.Proofs.Ytjfjmlcibhdilaa.Tar
open Go.RowKit Go.Shelf Go.Proofs.Ytjfjmlcibhdilaa.Base Go.Proofs.Ytjfjmlcibhdilaa.Rng
set_option linter.unusedVariables false
set_option linter.unusedSimpArgs false
set_option maxRecDepth 20000
attribute [local go_sem] Oper.semAt_some
theorem asked_any (ts : List Stp) (A : Option Addr) (q : Nat) (f u : Int) (w : World) (hr : RdE 2 Stp.enc w A ts) (hT : TG 0 ts) (h1 : 1 ≤ ts.length) (h8 : ts.length ≤ 8) (f0 : 0 ≤ f) (u0 : 0 ≤ u) (u1 : u ≤ 2097151) (fu : f + u ≤ 10000000) :
    Calls Try.prog 90 #[.slice A ts.length q, .int .i64 f, .int .i64 u] w fun e w' => e = .returned (.int .i64 0) ∧ Below w.heap.size w w' := by
  have HC := Lib.hid (check_any ts A q w hr hT h1 h8)
  have a1 : ¬ f < 0 := by omega
  have a2 : ¬ 10000000 < f := by omega
  have a3 : ¬ u < 0 := by omega
  have a4 : ¬ 2097151 < u := by omega
  have a5 : ¬ 10000000 < f + u := by omega
  clear hr hT
  go_enter Try.func90, Try.ntmps90
  go_wp2_with (fail)
  go_at_call 84
  refine HC.out.mono ?_
  rintro e w1 ⟨rfl, hb⟩
  have HB := Lib.hid hb
  clear hb
  go_wp2_with (fail)
  go_ret
  exact ⟨rfl, HB.out⟩
def Ln.enc (x : Ln) : List Value := [.int .i64 x.units, .int .i64 x.price, .int .i64 x.cost]










/-- An owned row abides the turn of a block below its base, or of one that is no cells. -/
theorem own_turned {W W' : World} {row : Option Nat} {base : Nat} {e : TypeId} {k n : Nat} {v : Value} {xs : List Value} (h : W.ownsRow base e k v n xs) (hg : W.grownBy W' row) (hr : ∀ r, row = some r → r < base ∨ ∃ o : Obj, W.heap[r]? = some o ∧ o.isCells = false) : W'.ownsRow base e k v n xs := by
  refine h.kept hg ?_
  rcases h.2 with ⟨rfl, _⟩ | ⟨g, cap, cur, rfl, hb, hgb, _⟩
  · exact .inl rfl
  · refine .inr fun e' => ?_
    rcases hr g (by simpa [Value.ownBlock] using e'.symm) with h1 | ⟨o, ho, hc⟩
    · omega
    · rw [hgb] at ho; cases ho; cases hc
theorem KpT.own {n0 T F : Nat} {W W' : World} {base : Nat} {e : TypeId} {k n : Nat} {v : Value} {xs : List Value} (h : W.ownsRow base e k v n xs) (hg : W.grownBy W' v.ownBlock) (he : e ≠ 132) (h1 : n0 ≤ base) (h2 : T < base) (h3 : F < base) (hs : base ≤ W.heap.size) : KpT n0 T F W W' :=
  KpT.grown hg (by
    intro r hr
    rcases h.2 with ⟨rfl, _⟩ | ⟨g, cap, cur, rfl, hb, hgb, _⟩
    · simp [Value.ownBlock] at hr
    · obtain rfl : g = r := by simpa [Value.ownBlock] using hr
      refine ⟨by omega, by omega, by omega, fun cs fr e' => ?_⟩
      rw [hgb] at e'
      simp at e'
      exact he e'.2.1) (by omega) (by omega) (by omega)
theorem KpT.box {n0 T F : Nat} {W : World} {B : Nat} {t : TypeId} {v : Value} (h : Boxed W B t v) (u : Value) (ht : t ≠ 132) (h1 : n0 ≤ B) (h2 : B ≠ T) (h3 : B ≠ F) (hT : T < W.heap.size) (hF : F < W.heap.size) (hn : n0 ≤ W.heap.size) : KpT n0 T F W (W.setCell ⟨B, 0, none⟩ u) :=
  KpT.grown (grownBy_setCell' W B u) (by
    intro r hr
    cases hr
    refine ⟨h1, h2, h3, fun cs fr e' => ?_⟩
    rw [show W.heap[B]? = _ from h] at e'
    simp at e'
    exact ht e'.2.1) hT hF hn
theorem Boxed.out {W W' : World} {B : Nat} {t : TypeId} {v : Value} (h : Boxed W B t v) (hb : Below W.heap.size W W') : Boxed W' B t v := (hb.block B h.lt).trans h
theorem grew {W w1 : World} {n0 T F base : Nat} {e : TypeId} {size k : Nat} {v : Value} {xs : List Value} {tmp : Obj} (hrow : W.ownsRow base e size v k xs) (hs : base ≤ W.heap.size) (hg : (W.alloc tmp).grownBy w1 v.ownBlock) (he : e ≠ 132) (h1 : n0 ≤ base) (h2 : T < base) (h3 : F < base) :
    KeepsOthers W w1 ∧ Below n0 W w1 ∧ KpT n0 T F W w1 ∧ (∀ B t u, Boxed W B t u → t ≠ e → Boxed w1 B t u) ∧ base ≤ w1.heap.size := by
  have hrow' := hrow.alloc tmp
  have hsz := hg.size
  simp only [World.size_alloc] at hsz
  refine ⟨(KeepsOthers.alloc W tmp).trans (KeepsOthers.of_grownBy hg fun j o ej hj => ?_), ((Below.refl n0 W).alloc (by omega) tmp).grown hg (by simp; omega) fun j ej => ?_, (KpT.alloc tmp (by omega) (by omega) (by omega)).t (KpT.own hrow' hg he h1 h2 h3 (by simp; omega)), fun B t u hb ht => (hb.alloc tmp).kept hg (hb.not_row ht hrow), by omega⟩
  · rcases hrow'.2 with ⟨rfl, _⟩ | ⟨g, cap, cur, rfl, _, hgb, _⟩
    · simp [Value.ownBlock] at ej
    · obtain rfl : g = j := by simpa [Value.ownBlock] using ej
      rw [hgb] at hj; cases hj; rfl
  · rcases hrow'.2 with ⟨rfl, _⟩ | ⟨g, cap, cur, rfl, hb, _, _⟩
    · simp [Value.ownBlock] at ej
    · obtain rfl : g = j := by simpa [Value.ownBlock] using ej
      omega
theorem box_other {W : World} {B C : Nat} {t : TypeId} {v : Value} (h : Boxed W B t v) (hne : B ≠ C) (u : Value) : Boxed (W.setCell ⟨C, 0, none⟩ u) B t v :=
  h.kept (grownBy_setCell' W C u) (by simp [hne])
theorem bill_cons (x : Int × Int) (t : List (Int × Int)) (u : Int) : billP (x :: t) u = if u = 0 then [] else ⟨min x.1 u, x.2, min x.1 u * x.2⟩ :: billP t (u - min x.1 u) := rfl
theorem bill_zero : ∀ t : List (Int × Int), billP t 0 = []
  | [] => rfl
  | _ :: _ => rfl






































































































































































































end Go.Proofs.Ytjfjmlcibhdilaa.Tar
