/- The walk of CmpPlus. -/
import Derived.Test.YtjlihpbnhojdgaaCmp
import Derived.Test.YtjlihpbnhojdgaaOpenW
import Derived.Test.YtjlihpbnhojdgaaApp
namespace Go.Proofs.Ytjlihpbnhojdgaa.CmpPlus
open Go.RowKit Go.Proofs.Ytjlihpbnhojdgaa.Base Go.Proofs.Ytjlihpbnhojdgaa.Word
set_option linter.unusedVariables false
set_option linter.unusedSimpArgs false
set_option maxRecDepth 20000
theorem cmp_num (x y : W3) (hx : x.ok) (hy : y.ok) : cmp3 x.c x.b x.a y.c y.b y.a = sgn x.num y.num := by
  obtain ⟨⟨a0, a1⟩, ⟨b0, b1⟩, c0, c1⟩ := hx
  obtain ⟨⟨d0, d1⟩, ⟨e0, e1⟩, f0, f1⟩ := hy
  unfold W3.num cmp3 sgn
  split <;> split <;> (try split) <;> (try split) <;> (try split) <;> (try split) <;> (try split) <;> (try split) <;> omega
def wantC (a c : Int) : Int := if c ≠ 0 then -1 else if a = 0 then 0 else 1
theorem law (x : W3) (a : Int) (hx : x.ok) (ha : wd a) : plusC x a ≤ 1 ∧ (let p := plusW x a; cmp3 p.c p.b p.a x.c x.b x.a = wantC a (plusC x a) ∧ cmp3 x.c x.b x.a p.c p.b p.a = -(wantC a (plusC x a))) := by
  have hn := plus_num x a
  have b1 := num_bound hx
  have b2 := num_bound (plusW_ok x a)
  obtain ⟨c0, c1⟩ := plusC_wd x a hx ha
  obtain ⟨a0, a1⟩ := ha
  have hc : plusC x a ≤ 1 := by omega
  refine ⟨hc, ?_⟩
  show cmp3 (plusW x a).c (plusW x a).b (plusW x a).a x.c x.b x.a = _ ∧ cmp3 x.c x.b x.a (plusW x a).c (plusW x a).b (plusW x a).a = _
  rw [cmp_num _ _ (plusW_ok x a) hx, cmp_num _ _ hx (plusW_ok x a)]
  generalize (plusW x a).num = p at *
  generalize x.num = q at *
  generalize plusC x a = c at *
  unfold sgn wantC
  have : c = 0 ∨ c = 1 := by omega
  rcases this with rfl | rfl
  · rw [if_neg (by omega)]
    by_cases h0 : a = 0
    · rw [if_pos h0]
      constructor <;> (repeat (split <;> try omega))
    · rw [if_neg h0]
      constructor <;> (repeat (split <;> try omega))
  · rw [if_pos (by omega)]
    constructor <;> (repeat (split <;> try omega))
set_option maxHeartbeats 1000000 in
theorem walk (x : W3) (cs : List Value) (a : Int) (w : World) (hx : cs = x.cs ∧ x.ok) (wda : (Lit.int .u32 a).wf = true) :
    Calls Try.prog 6 #[.agg cs.toArray, .int .u32 a] w fun e w' => e = .returned (.bool true) ∧ Below w.heap.size w w' := by
  obtain ⟨rfl, ok⟩ := hx
  have ha := Open.wf_wd wda
  clear wda
  show Calls Try.prog 6 #[.agg #[.int .u32 x.a, .int .u32 x.b, .int .u32 x.c], .int .u32 a] w _
  obtain ⟨l1, l2, l3⟩ := law x a ok ha
  have okp := plusW_ok x a
  have HPL := Lib.hid (fun W => plus_any x a W ok ha)
  have HC1 := Lib.hid (fun W => cmp_any (plusW x a) x W)
  have HC2 := Lib.hid (fun W => cmp_any x (plusW x a) W)
  rw [l2] at HC1
  rw [l3] at HC2
  have hc0 : 0 ≤ plusC x a := (plusC_wd x a ok ha).1
  clear l2 l3 okp
  have hwf : wantC a (plusC x a) = if plusC x a ≠ 0 then -1 else if a = 0 then 0 else 1 := rfl
  generalize plusC x a = c at *
  generalize wantC a c = wn at *
  generalize plusW x a = y at *
  obtain ⟨x0, x1, x2⟩ := x
  obtain ⟨y0, y1, y2⟩ := y
  simp only at HPL HC1 HC2 ⊢
  have a0 := ha.1
  have a1 := ha.2
  clear ok ha
  have hw3 : wn = -1 ∨ wn = 0 ∨ wn = 1 := by rw [hwf]; split <;> (try split) <;> simp
  have HWF := Lib.hid hwf
  clear hwf
  go_enter Try.func6, Try.ntmps6
  go_wp2_with (fail)
  go_at_call 22
  refine (HPL.out _).mono ?_
  rintro e w1 ⟨rfl, hb⟩
  have hwz1 := hb.size
  try simp at hwz1
  have HBw1 : Hid (Below w.heap.size w w1) := Lib.hid (below_then' (by repeat (first | with_reducible exact Below.refl _ _ | with_reducible refine blw_alloc ?_ _ | with_reducible refine Below.drew ?_ | with_reducible refine blw_step ?_ _ | with_reducible refine Below.setCell (p := ⟨_, _, none⟩) ?_ (by first | exact Nat.le_refl _ | (simp; done) | (simp; omega) | omega) _)) hb)
  have Cpw1 : Hid (Cs w1 (w.heap.size) [.int .u32 x0, .int .u32 x1, .int .u32 x2]) := Lib.hid ((show Cs _ (w.heap.size) [.int .u32 x0, .int .u32 x1, .int .u32 x2] from (by (repeat (first | (with_reducible refine Cs.new ?_; focus (first | rfl | (simp; done) | omega)) | with_reducible refine Cs.alloc ?_ _ | with_reducible refine Cs.drew ?_ | with_reducible refine Cs.drewN ?_ _ | (with_reducible refine Cs.other ?_ ?_ _; focus (first | omega | (simp; omega))) | with_reducible apply Cs.put)) <;> first | rfl | (simp; done))).after hb)
  clear hb
  have lpw1 := Cpw1.out.1
  have pw1g0 := (Cpw1.out.at 0 rfl).1
  have pw1g1 := (Cpw1.out.at 1 rfl).1
  have pw1g2 := (Cpw1.out.at 2 rfl).1
  go_wp2_with (fail)
  go_at_call 23
  refine (HC1.out _).mono ?_
  rintro e w2 ⟨rfl, hb⟩
  have hwz2 := hb.size
  try simp at hwz2
  have HBw2 : Hid (Below w.heap.size w w2) := Lib.hid (below_then' (by repeat (first | with_reducible exact HBw1.out | with_reducible refine blw_alloc ?_ _ | with_reducible refine Below.drew ?_ | with_reducible refine blw_step ?_ _ | with_reducible refine Below.setCell (p := ⟨_, _, none⟩) ?_ (by first | exact Nat.le_refl _ | (simp; done) | (simp; omega) | omega) _)) hb)
  have Cpw2 : Hid (Cs w2 (w.heap.size) [.int .u32 x0, .int .u32 x1, .int .u32 x2]) := Lib.hid ((show Cs _ (w.heap.size) [.int .u32 x0, .int .u32 x1, .int .u32 x2] from (by (repeat (first | with_reducible exact Cpw1.out | (with_reducible refine Cs.new ?_; focus (first | rfl | (simp; done) | omega)) | with_reducible refine Cs.alloc ?_ _ | with_reducible refine Cs.drew ?_ | with_reducible refine Cs.drewN ?_ _ | (with_reducible refine Cs.other ?_ ?_ _; focus (first | omega | (simp; omega))) | with_reducible apply Cs.put)) <;> first | rfl | (simp; done))).after hb)
  have Cqw2 : Hid (Cs w2 (w1.heap.size) [.int .u32 y0, .int .u32 y1, .int .u32 y2]) := Lib.hid ((show Cs _ (w1.heap.size) [.int .u32 y0, .int .u32 y1, .int .u32 y2] from (by (repeat (first | (with_reducible refine Cs.new ?_; focus (first | rfl | (simp; done) | omega)) | with_reducible refine Cs.alloc ?_ _ | with_reducible refine Cs.drew ?_ | with_reducible refine Cs.drewN ?_ _ | (with_reducible refine Cs.other ?_ ?_ _; focus (first | omega | (simp; omega))) | with_reducible apply Cs.put)) <;> first | rfl | (simp; done))).after hb)
  clear pw1g0 pw1g1 pw1g2 hb
  have lpw2 := Cpw2.out.1
  have pw2g0 := (Cpw2.out.at 0 rfl).1
  have pw2g1 := (Cpw2.out.at 1 rfl).1
  have pw2g2 := (Cpw2.out.at 2 rfl).1
  have lqw2 := Cqw2.out.1
  have qw2g0 := (Cqw2.out.at 0 rfl).1
  have qw2g1 := (Cqw2.out.at 1 rfl).1
  have qw2g2 := (Cqw2.out.at 2 rfl).1
  go_wp2_with (fail)
  go_at_call 23
  refine (HC2.out _).mono ?_
  rintro e w3 ⟨rfl, hb⟩
  have hwz3 := hb.size
  try simp at hwz3
  have HBw3 : Hid (Below w.heap.size w w3) := Lib.hid (below_then' (by repeat (first | with_reducible exact HBw2.out | with_reducible refine blw_alloc ?_ _ | with_reducible refine Below.drew ?_ | with_reducible refine blw_step ?_ _ | with_reducible refine Below.setCell (p := ⟨_, _, none⟩) ?_ (by first | exact Nat.le_refl _ | (simp; done) | (simp; omega) | omega) _)) hb)
  have Cpw3 : Hid (Cs w3 (w.heap.size) [.int .u32 x0, .int .u32 x1, .int .u32 x2]) := Lib.hid ((show Cs _ (w.heap.size) [.int .u32 x0, .int .u32 x1, .int .u32 x2] from (by (repeat (first | with_reducible exact Cpw2.out | (with_reducible refine Cs.new ?_; focus (first | rfl | (simp; done) | omega)) | with_reducible refine Cs.alloc ?_ _ | with_reducible refine Cs.drew ?_ | with_reducible refine Cs.drewN ?_ _ | (with_reducible refine Cs.other ?_ ?_ _; focus (first | omega | (simp; omega))) | with_reducible apply Cs.put)) <;> first | rfl | (simp; done))).after hb)
  have Cqw3 : Hid (Cs w3 (w1.heap.size) [.int .u32 y0, .int .u32 y1, .int .u32 y2]) := Lib.hid ((show Cs _ (w1.heap.size) [.int .u32 y0, .int .u32 y1, .int .u32 y2] from (by (repeat (first | with_reducible exact Cqw2.out | (with_reducible refine Cs.new ?_; focus (first | rfl | (simp; done) | omega)) | with_reducible refine Cs.alloc ?_ _ | with_reducible refine Cs.drew ?_ | with_reducible refine Cs.drewN ?_ _ | (with_reducible refine Cs.other ?_ ?_ _; focus (first | omega | (simp; omega))) | with_reducible apply Cs.put)) <;> first | rfl | (simp; done))).after hb)
  clear pw2g0 pw2g1 pw2g2 qw2g0 qw2g1 qw2g2 hb
  have lpw3 := Cpw3.out.1
  have lqw3 := Cqw3.out.1
  have hnw : IntKind.i64.wrap (-wn) = -wn := Base.wrap64 _ (by omega) (by omega)
  by_cases h0 : a = 0
  all_goals by_cases hc : c = 0
  all_goals
    have hwn := HWF.out
    simp only [h0, hc, ne_eq, not_true_eq_false, if_false, if_true, not_false_eq_true] at hwn
    subst hwn
    first | (have k0 : (a == 0) = true := by (simp [h0]; done)) | (have k0 : (a == 0) = false := by (simp [h0]; done))
    first | (have k1 : (c != 0) = true := by (simp [hc]; done)) | (have k1 : (c != 0) = false := by (simp [hc]; done))
    clear h0 hc
    go_wp2_with fail
    go_ret
    exact ⟨rfl, HBw3.out⟩
end Go.Proofs.Ytjlihpbnhojdgaa.CmpPlus
