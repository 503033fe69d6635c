/- The walk of OverBack. -/
import Derived.Test.YtjopjlnnmhokfaaOver
import Derived.Test.YtjopjlnnmhokfaaOpenW
namespace Go.Proofs.Ytjopjlnnmhokfaa.OverBack
open Go.RowKit Go.Proofs.Ytjopjlnnmhokfaa.Base Go.Proofs.Ytjopjlnnmhokfaa.Word
set_option linter.unusedVariables false
set_option linter.unusedSimpArgs false
set_option maxRecDepth 20000
attribute [local go_sem] eq_w3

theorem back (x : W3) (d : Int) (hx : x.ok) (hd : wd d) (hn : d ≠ 0) : timesC (overW x d) d = 0 ∧ plusC (timesW (overW x d) d) (ov0 x d) = 0 ∧ plusW (timesW (overW x d) d) (ov0 x d) = x := by
  obtain ⟨_, _, ⟨f0, l0⟩, ok, hnum⟩ := over_facts x d hx hd hn
  have h1 := times_num (overW x d) d
  have h2 := plus_num (timesW (overW x d) d) (ov0 x d)
  have b1 := num_bound (timesW_ok (overW x d) d)
  have b2 := num_bound (plusW_ok (timesW (overW x d) d) (ov0 x d))
  have b3 := num_bound hx
  have c1 := timesC_wd (overW x d) d ok hd
  have c2 := plusC_wd (timesW (overW x d) d) (ov0 x d) (timesW_ok _ _) f0
  unfold wd at c1 c2 f0
  have e1 : timesC (overW x d) d = 0 := by omega
  have e2 : plusC (timesW (overW x d) d) (ov0 x d) = 0 := by omega
  exact ⟨e1, e2, num_inj (plusW_ok _ _) hx (by omega)⟩

theorem walk (x : W3) (cs : List Value) (d : Int) (w : World) (hx : cs = x.cs ∧ x.ok) (wdd : (Lit.int .u32 d).wf = true) :
    Calls Try.prog 5 #[.agg cs.toArray, .int .u32 d] w fun e w' => e = .returned (.bool true) ∧ Below w.heap.size w w' := by
  obtain ⟨rfl, ok⟩ := hx
  have hd := Open.wf_wd wdd
  clear wdd
  show Calls Try.prog 5 #[.agg #[.int .u32 x.a, .int .u32 x.b, .int .u32 x.c], .int .u32 d] w _
  by_cases hn : d = 0
  · subst hn
    go_enter Try.func5, Try.ntmps5
    go_wp2_with fail
    refine (over_zero x _).mono ?_
    rintro e w1 ⟨rfl, hb⟩
    have HB := Lib.hid hb
    clear hb
    go_wp2
    go_ret
    exact ⟨rfl, blw_alloc (below_then' (blw_alloc (Below.refl _ _) _) HB.out) _⟩
  · obtain ⟨_, _, ⟨f0, l0⟩, okq, _⟩ := over_facts x d ok hd hn
    obtain ⟨e1, e2, e3⟩ := back x d ok hd hn
    have hdb : (d == 0) = false := by simp [hn]
    have hlt : decide (ov0 x d < d) = true := decide_eq_true l0
    have E1 := Lib.hid e1
    have E2 := Lib.hid e2
    have E3 := Lib.hid e3
    have HN := Lib.hid hn
    clear e1 e2 e3 hn
    go_enter Try.func5, Try.ntmps5
    go_wp2_with fail
    refine (over_any x d _ ok hd HN.out).mono ?_
    rintro e w1 ⟨rfl, hb⟩
    obtain ⟨bc, bf⟩ := bcell hb
    have hz1 := hb.size
    simp at hz1
    have HB := Lib.hid hb
    clear hb
    have lt1 : w.heap.size < w1.heap.size := by omega
    go_wp2_with fail
    refine (times_any (overW x d) d _ okq hd).mono ?_
    rw [E1.out]
    rintro e w2 ⟨rfl, hb⟩
    obtain ⟨bc2, bf2⟩ := bcell hb
    have hz2 := hb.size
    simp at hz2
    have HB2 := Lib.hid hb
    clear hb
    have lt2 : w.heap.size < w2.heap.size := by omega
    have lt21 : w1.heap.size < w2.heap.size := by omega
    go_wp2_with fail
    refine (plus_any (timesW (overW x d) d) (ov0 x d) _ (timesW_ok _ _) f0).mono ?_
    rw [E2.out, E3.out]
    rintro e w3 ⟨rfl, hb⟩
    obtain ⟨bc3, bf3⟩ := bcell hb
    have hz3 := hb.size
    simp at hz3
    have HB3 := Lib.hid hb
    clear hb
    have lt3 : w.heap.size < w3.heap.size := by omega
    have lt31 : w1.heap.size < w3.heap.size := by omega
    have lt32 : w2.heap.size < w3.heap.size := by omega
    go_wp2_with fail
    go_ret
    have B1 := below_then' (blw_alloc (Below.refl _ _) _) HB.out
    have B2 := below_then' (blw_alloc B1 _) HB2.out
    have B3 := below_then' (blw_alloc B2 _) HB3.out
    exact ⟨rfl, blw_alloc B3 _⟩
end Go.Proofs.Ytjopjlnnmhokfaa.OverBack
