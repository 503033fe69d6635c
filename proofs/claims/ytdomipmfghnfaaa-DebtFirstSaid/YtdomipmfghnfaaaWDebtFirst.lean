/- The walk of DebtFirst. -/
import Derived.Test.YtdomipmfghnfaaaRecover
namespace Go.Proofs.Ytdomipmfghnfaaa.DebtFirst
open Go.RowKit Go.Proofs.Ytdomipmfghnfaaa.Base Go.Proofs.Ytdomipmfghnfaaa.Debt
set_option linter.unusedVariables false
set_option linter.unusedSimpArgs false

def leftL (xs : List Db) : List Db := xs.filter fun x => decide (0 < x.a)
def sumA : List Db → Int
  | [] => 0
  | x :: t => x.a + sumA t
theorem sumA_append : ∀ a b : List Db, sumA (a ++ b) = sumA a + sumA b
  | [], b => by simp [sumA]
  | x :: a, b => by
    simp only [List.cons_append, sumA, sumA_append a b]
    omega
theorem sumA_bd : ∀ a : List Db, (∀ x ∈ a, x.ok) → 0 ≤ sumA a ∧ sumA a ≤ 1000000000 * a.length
  | [], _ => by simp [sumA]
  | x :: a, h => by
    have := sumA_bd a (fun y hy => h y (List.mem_cons_of_mem _ hy))
    have := (h x (List.mem_cons_self)).1
    simp only [sumA, List.length_cons]
    omega
theorem leftL_snoc (xs : List Db) (d : Db) : leftL (xs ++ [d]) = leftL xs ++ (if 0 < d.a then [d] else []) := by
  unfold leftL
  rw [List.filter_append]
  congr 1
  by_cases h : 0 < d.a <;> simp [h]
theorem leftL_ok (xs : List Db) (h : ∀ x ∈ xs, x.ok) : ∀ x ∈ leftL xs, x.ok := fun x hx => h x (List.mem_filter.1 hx).1
theorem leftL_len (xs : List Db) : (leftL xs).length ≤ xs.length := List.length_filter_le _ _

def Laid (share : Int) (xs : List Db) (pre rest : List Db) : Prop :=
  leftL xs = pre ++ rest ∧ (rest = [] → (recL share xs).1 = [] ∧ (recL share xs).2 = sumA pre) ∧
    ∀ r rs, rest = r :: rs → (recL share xs).1 = ⟨r.a - ((recL share xs).2 - sumA pre), r.b⟩ :: rs ∧ 0 ≤ (recL share xs).2 - sumA pre ∧ (recL share xs).2 - sumA pre < r.a ∧ (recL share xs).2 = share
theorem laid_any (share : Int) (h0 : 0 ≤ share) (xs : List Db) : (∀ x ∈ xs, x.ok) → ∃ pre rest, Laid share xs pre rest := by
  refine snoc_ind (P := fun xs => (∀ x ∈ xs, x.ok) → ∃ pre rest, Laid share xs pre rest) ?_ ?_ xs
  · intro _
    exact ⟨[], [], rfl, fun _ => ⟨rfl, rfl⟩, fun r rs h => by cases h⟩
  · intro l d ih hk
    have hkl : ∀ x ∈ l, x.ok := fun x hx => hk x (List.mem_append_left _ hx)
    obtain ⟨pre, rest, h1, h2, h3⟩ := ih hkl
    obtain ⟨⟨p0, p1⟩, _, _⟩ := recL_inv share h0 l hkl
    obtain ⟨⟨d0, d1⟩, d2, d3⟩ := hk d (by simp)
    unfold Laid
    rw [recL_snoc, leftL_snoc, h1]
    unfold recStep
    by_cases hc : share - (recL share l).2 < d.a
    · rw [if_pos hc, if_pos (by omega : 0 < d.a)]
      cases rest with
      | nil =>
        obtain ⟨g1, g2⟩ := h2 rfl
        refine ⟨pre, [d], by simp, (fun h => by cases h), ?_⟩
        intro r rs h
        cases h
        rw [g1]
        simp only [List.nil_append]
        rw [g2] at hc ⊢
        exact ⟨rfl, by omega, hc, trivial⟩
      | cons r rs =>
        obtain ⟨g1, g2, g3, g4⟩ := h3 r rs rfl
        refine ⟨pre, r :: rs ++ [d], by simp, (fun h => by cases h), ?_⟩
        intro r' rs' h
        cases h
        simp only
        rw [g1, g4]
        refine ⟨?_, by omega, by omega, trivial⟩
        have : d.a - (share - share) = d.a := by omega
        rw [this]
        rfl
    · rw [if_neg hc]
      cases rest with
      | nil =>
        obtain ⟨g1, g2⟩ := h2 rfl
        by_cases hp : 0 < d.a
        · rw [if_pos hp]
          refine ⟨pre ++ [d], [], by simp, (fun _ => ⟨g1, ?_⟩), (fun r rs h => by cases h)⟩
          simp only
          rw [sumA_append, g2]
          simp [sumA]
        · rw [if_neg hp]
          refine ⟨pre, [], by simp, (fun _ => ⟨g1, ?_⟩), (fun r rs h => by cases h)⟩
          simp only
          omega
      | cons r rs =>
        obtain ⟨g1, g2, g3, g4⟩ := h3 r rs rfl
        have hz : d.a = 0 := by omega
        rw [if_neg (by omega)]
        refine ⟨pre, r :: rs, by simp, (fun h => by cases h), ?_⟩
        intro r' rs' h
        cases h
        simp only
        rw [hz, Int.add_zero]
        exact ⟨g1, g2, g3, g4⟩

theorem walk (l : List Ow) (L : Option Addr) (d : Nat) (x y : Int) (w : World) (hl : RdE 2 Ow.enc w L l) (hk : ∀ x ∈ l, x.ok) (wx : (Lit.int .i64 x).wf = true) (wy : (Lit.int .i64 y).wf = true) :
    Calls Try.prog 13 #[.slice L l.length d, .int .i64 x, .int .i64 y] w fun e w' => e = .returned (.bool true) ∧ Below w.heap.size w w' := by
  obtain ⟨x0, x1⟩ := i64_bound wx
  obtain ⟨y0, y1⟩ := i64_bound wy
  clear wx wy
  have HL := Lib.hid hl
  have HK := Lib.hid hk
  clear hl hk
  obtain ⟨tend, ht⟩ : ∃ t, t = pk x 100000001 := ⟨_, rfl⟩
  obtain ⟨bp, hb⟩ : ∃ t, t = pk y 10001 := ⟨_, rfl⟩
  have ha := pk_bound x 100000001 (by omega)
  have hbb := pk_bound y 10001 (by omega)
  rw [← ht] at ha
  rw [← hb] at hbb
  obtain ⟨ta0, ta1⟩ := ha
  obtain ⟨bb0, bb1⟩ := hbb
  have EA := Lib.hid ht.symm
  have EB := Lib.hid hb.symm
  clear ht hb
  go_enter Try.func13, Try.ntmps13
  go_wp2_with (first | (go_at_call 28; refine (owing_any l _ L d _ HL.out HK.out (by omega) (by omega)).mono ?_; rintro e w1 ⟨D, q, rfl, ho, hb⟩; have HO := Lib.hid ho; have HB := Lib.hid hb; clear ho hb) | (go_at_call 15; refine (picked_any _ _ _ (by omega) (by omega) (by omega)).mono ?_; rintro e w' ⟨rfl, rfl⟩; first | rw [EA.out] | rw [EB.out]) | fail)
  have dl := owingL_len l 1000000000
  have dk := Lib.hid (owingL_ok l 1000000000 (by omega) (by omega))
  generalize owingL l 1000000000 = ds at *
  have HD := Lib.hid HO.out.read
  go_at_call 32
  refine (recover_any ds _ _ D q _ HD.out dl dk.out ta0 (by omega) bb0 (by omega)).mono ?_
  rintro e w2 ⟨F, r, rfl, ho, hb⟩
  have hm0 : 0 ≤ tend * bp := Int.mul_nonneg ta0 bb0
  obtain ⟨share, hs⟩ : ∃ share, share = tend * bp / 10000 := ⟨_, rfl⟩
  have s0 : 0 ≤ share := by omega
  rw [← hs] at ho ⊢
  clear hs hm0
  obtain ⟨⟨p0, p1⟩, hin, hln⟩ := recL_inv share s0 ds dk.out
  obtain ⟨pre, rest, g1, g2, g3⟩ := laid_any share s0 ds dk.out
  generalize recL share ds = R at *
  obtain ⟨aft, paid⟩ := R
  simp only at ho hin hln p0 p1 g2 g3 ⊢
  have hal : aft.length = rest.length := by
    cases rest with
    | nil => rw [(g2 rfl).1]
    | cons r rs => rw [(g3 r rs rfl).1]; rfl
  have hll := leftL_len ds
  have hlk := leftL_ok ds dk.out
  have hpl : pre.length + rest.length ≤ 8 := by rw [g1] at hll; simp at hll; omega
  have HO2 := Lib.hid ho
  have HB2 := Lib.hid hb
  have HD2 := Lib.hid (HD.out.below hb)
  have HIN := Lib.hid hin
  have G1 := Lib.hid g1
  have G2 := Lib.hid g2
  have G3 := Lib.hid g3
  have HAL := Lib.hid hal
  have HLK := Lib.hid hlk
  clear ho hb hin g1 g2 g3 hal hlk
  go_wp2_with (fail)
  go_loopw [11, 12] (fun v i wr => ∃ k : Nat, k ≤ ds.length ∧ i = .int .i64 k ∧ wr.ownsRow w2.heap.size 60 2 v (leftL (ds.take k)).length ((leftL (ds.take k)).flatMap Db.enc) ∧ Below w2.heap.size w2 wr) (fun _ i _ => ds.length - (intOf i).toNat)
  case atStart => exact ⟨0, by omega, rfl, World.ownsRow_nil _ _ _ _, Below.refl _ _⟩
  case round =>
    obtain ⟨k, hk, rfl, ho, hb⟩ := hrel
    have HOk := Lib.hid ho
    have HBk := Lib.hid hb
    clear ho hb
    by_cases hlt : k < ds.length
    · obtain ⟨ad, hde, hc0, hc1⟩ := (HD2.out.below HBk.out).at2 k hlt _ _ rfl
      subst hde
      have hki : (k : Int) < (ds.length : Int) := by omega
      have hk0 : (0 : Int) ≤ (k : Int) := by omega
      have hll1 : (leftL (ds.take k)).length ≤ 8 := Nat.le_trans (leftL_len _) (by simp; omega)
      have hstep : leftL (ds.take (k + 1)) = leftL (ds.take k) ++ (if 0 < ds[k].a then [ds[k]] else []) := by rw [List.take_succ_eq_append_getElem hlt, leftL_snoc]
      have HST := Lib.hid hstep
      clear hstep
      by_cases hp : 0 < ds[k].a
      · have hp2 : ds[k].a > 0 := hp
        have HP := Lib.hid hp
        go_wp2_with (at_builtin; refine app1 (w0 := w2) w2.heap.size rfl (.tmp 44) (.tmp 49) 54 60 (.agg #[.int .i64 0, .int .i64 0]) 2 16 rfl Try.underlying54 info_db rfl (by decide) (by decide) _ _ _ [.int .i64 ds[k].a, .int .i64 ds[k].b] rfl rfl rfl ?c1 HOk.out HBk.out HBk.out.size ?c2 ?_; (case c1 => simp [Value.oneCell']); (case c2 => omega); intro v1 w1 ho1 hb1 _ _; have HO1 := Lib.hid ho1; have HB1 := Lib.hid hb1; clear ho1 hb1)
        go_roundw
        case rel =>
          refine ⟨k + 1, by omega, by go_num, ?_, HB1.out⟩
          rw [HST.out, if_pos HP.out, List.flatMap_append, List.length_append]
          exact HO1.out
        case measure => simp [intOf]; omega
      · have hp2 : ¬ ds[k].a > 0 := hp
        have HP := Lib.hid hp
        go_wp2
        go_roundw
        case rel =>
          refine ⟨k + 1, by omega, by go_num, ?_, HBk.out⟩
          rw [HST.out, if_neg HP.out, List.append_nil]
          exact HOk.out
        case measure => simp [intOf]; omega
    · obtain rfl : k = ds.length := by omega
      rw [List.take_of_length_le (Nat.le_refl _), G1.out] at HOk
      obtain ⟨B, qB, rfl, ho⟩ := OwDb.of (xs := pre ++ rest) HOk.out rfl rfl
      have HLf := Lib.hid ho.read
      have hlen : (pre ++ rest).length = pre.length + rest.length := List.length_append
      have HLE := Lib.hid hlen
      have hal := HAL.out
      clear ho hlen HOk
      have hlfk := HLK.out
      rw [G1.out] at hlfk
      generalize hlf : pre ++ rest = lf at *
      have HLFE := Lib.hid hlf
      have hsub : ((lf.length : Int) - (aft.length : Int)) = ((pre.length : Nat) : Int) := by have := HLE.out; omega
      have hplf : pre.length ≤ lf.length := by have := HLE.out; omega
      have hlf8 : lf.length ≤ 8 := by have := HLE.out; omega
      have HLFK := Lib.hid hlfk
      have HAL2 := Lib.hid hal
      clear hlf hlfk hal
      have hF := Lib.hid (HO2.out.read.below HBk.out)
      have hw1 := HB.out.size
      have hw2 := HB2.out.size
      have hw3 := HBk.out.size
      have HBA := Lib.hid ((below_then HB.out hw1 HB2.out).trans (HBk.out.mono (by omega)))
      obtain ⟨w3, hw⟩ : ∃ w3, w3 = wr := ⟨_, rfl⟩
      subst hw
      go_wp2
      go_loopw [14, 15] (fun v i wr => ∃ k : Nat, k ≤ pre.length ∧ i = .int .i64 k ∧ v = .int .i64 (sumA (lf.take k)) ∧ Below w3.heap.size w3 wr) (fun _ i _ => pre.length - (intOf i).toNat)
      case atStart => exact ⟨0, by omega, rfl, rfl, Below.refl _ _⟩
      case round =>
        obtain ⟨k2, hk2, rfl, rfl, hb⟩ := hrel
        have HBx := Lib.hid hb
        clear hb
        have hsb := sumA_bd (lf.take k2) (fun x hx => HLFK.out x (List.mem_of_mem_take hx))
        obtain ⟨sb0, sb1⟩ := hsb
        have htl : (lf.take k2).length ≤ 8 := by simp; omega
        by_cases hlt2 : k2 < pre.length
        · have hlt3 : k2 < lf.length := by omega
          obtain ⟨bd, hbe, hc0, hc1⟩ := (HLf.out.below HBx.out).at2 k2 hlt3 _ _ rfl
          subst hbe
          have hki2 : (k2 : Int) < (pre.length : Int) := by omega
          have hki3 : (k2 : Int) < (lf.length : Int) := by omega
          have hk20 : (0 : Int) ≤ (k2 : Int) := by omega
          have hst : sumA (lf.take (k2 + 1)) = sumA (lf.take k2) + lf[k2].a := by
            rw [List.take_succ_eq_append_getElem hlt3, sumA_append]
            simp [sumA]
          have HST := Lib.hid hst
          obtain ⟨⟨z0, z1⟩, z2, z3⟩ := HLFK.out lf[k2] (List.getElem_mem hlt3)
          clear hst
          generalize (lf.take k2).length = tl at *
          generalize sumA (lf.take k2) = sm at *
          go_wp2
          go_roundw
          case rel => exact ⟨k2 + 1, by omega, by go_num, by rw [HST.out], HBx.out⟩
          case measure => simp [intOf]; omega
        · obtain rfl : k2 = pre.length := by omega
          have htk : lf.take pre.length = pre := by rw [← HLFE.out]; exact List.take_left
          rw [htk] at sb0 sb1 htl ⊢
          clear htk
          have HIN2 := HIN.out
          obtain ⟨sm, hsm⟩ : ∃ sm, sm = sumA pre := ⟨_, rfl⟩
          have G2' := G2.out
          have G3' := G3.out
          rw [← hsm] at G2' G3' sb0 sb1 ⊢
          have H2 := Lib.hid G2'
          have H3 := Lib.hid G3'
          clear G2' G3' HIN2 hsm
          obtain ⟨w4, hw⟩ : ∃ w4, w4 = wr := ⟨_, rfl⟩
          subst hw
          have hw4 := HBx.out.size
          have HBB := Lib.hid (HBA.out.trans (HBx.out.mono (by omega)))
          have HLg := Lib.hid (HLf.out.below HBx.out)
          have HFg := Lib.hid (hF.out.below HBx.out)
          go_wp2
          go_loopw [16] (fun i wr => ∃ k : Nat, k ≤ aft.length ∧ i = .int .i64 k ∧ Below w4.heap.size w4 wr) (fun i _ => aft.length - (intOf i).toNat)
          case atStart => exact ⟨0, by omega, rfl, Below.refl _ _⟩
          case round =>
            obtain ⟨k3, hk3, rfl, hb⟩ := hrel
            have HBy := Lib.hid hb
            clear hb
            by_cases hlt4 : k3 < aft.length
            · have hal3 := HAL2.out
              have hle3 := HLE.out
              have hlt5 : pre.length + k3 < lf.length := by omega
              have hlt6 : k3 < rest.length := by omega
              obtain ⟨bd, hbe, hc0, hc1⟩ := (HLg.out.below HBy.out).at2 (pre.length + k3) hlt5 _ _ rfl
              subst hbe
              obtain ⟨fd, hfe, hc2, hc3⟩ := (HFg.out.below HBy.out).at2 k3 hlt4 _ _ rfl
              subst hfe
              have hc0' := cell_old hc0
              have hc1' := cell_old hc1
              have hc2' := cell_old hc2
              have hc3' := cell_old hc3
              have hgi : lf[pre.length + k3] = rest[k3] := by
                have h := HLFE.out
                subst h
                rw [List.getElem_append_right (by omega)]
                simp
              obtain ⟨r0, rs, hr⟩ : ∃ r0 rs, rest = r0 :: rs := by
                cases rest with
                | nil => simp at hlt6
                | cons r0 rs => exact ⟨r0, rs, rfl⟩
              obtain ⟨q1, q2, q3, q4⟩ := H3.out r0 rs hr
              have hmin := (HIN.out aft[k3] (List.getElem_mem hlt4)).2
              obtain ⟨⟨z0, z1⟩, z2, z3⟩ := (HIN.out aft[k3] (List.getElem_mem hlt4)).1
              have hi0 : (0 : Int) ≤ (pre.length : Int) + (k3 : Int) := by omega
              have hi1 : (pre.length : Int) + (k3 : Int) < (lf.length : Int) := by omega
              have htn : ((pre.length : Int) + (k3 : Int)).toNat = pre.length + k3 := by omega
              have hk30 : (0 : Int) ≤ (k3 : Int) := by omega
              have hk3i : (k3 : Int) < (aft.length : Int) := by omega
              have hlfok := (HLFK.out lf[pre.length + k3] (List.getElem_mem hlt5)).1
              obtain ⟨v0, v1⟩ := hlfok
              by_cases hk : k3 = 0
              · have hke : ((k3 : Int) == 0) = true := by simp [hk]
                have hke2 : (k3 == 0) = true := by simp [hk]
                have hrr : rest[k3] = r0 := by subst hk; simp [hr]
                have haa : aft[k3] = ⟨lf[pre.length + k3].a - (paid - sm), lf[pre.length + k3].b⟩ := by
                  rw [hgi, hrr]
                  subst hk
                  simp only [q1]
                  rfl
                rw [hgi, hrr] at hc0 hc1 hc0' hc1' haa v0 v1
                rw [haa] at hc2 hc3 hc2' hc3' hmin z0 z1 z2 z3
                simp only at hc2 hc3 hc2' hc3' hmin z0 z1 z2 z3
                have hm1 : ((r0.a - (paid - sm)) < 1) = False := by simp; omega
                clear haa hrr hr hgi q1 q4 hk
                go_wp2
                go_quiet (fail)
                go_wp2
                go_roundw
                case rel => exact ⟨k3 + 1, by omega, by go_num, by first | exact blw_step (blw_alloc HBy.out _) _ | exact blw_step ((blw_alloc HBy.out _).setCell (by omega) _) _⟩
                case measure => simp [intOf]; omega
              · have hke : ((k3 : Int) == 0) = false := by simp [hk]
                have hke2 : (k3 == 0) = false := by simp [hk]
                have haa : aft[k3] = lf[pre.length + k3] := by
                  rw [hgi]
                  obtain ⟨k4, rfl⟩ : ∃ k4, k3 = k4 + 1 := ⟨k3 - 1, by omega⟩
                  simp only [q1, hr, List.getElem_cons_succ]
                rw [haa] at hc2 hc3 hc2' hc3' hmin z0 z1 z2 z3
                have hm1 : (lf[pre.length + k3].a < 1) = False := by simp; omega
                clear haa hr hgi q1 q4 hk
                go_wp2
                go_quiet (fail)
                go_wp2
                go_roundw
                case rel => exact ⟨k3 + 1, by omega, by go_num, by first | exact blw_step (blw_alloc HBy.out _) _ | exact blw_step ((blw_alloc HBy.out _).setCell (by omega) _) _⟩
                case measure => simp [intOf]; omega
            · obtain rfl : k3 = aft.length := by omega
              have hal3 := HAL2.out
              have h22 := Lib.hid (show rest = [] → True ∧ paid = sm from fun h => ⟨trivial, (H2.out h).2⟩)
              clear hlt4 hal3
              clear hln hsub HO2 HIN H2 H3 hF HFg HAL
              generalize aft.length = al at *
              by_cases h0 : al = 0
              · have hpe : (paid == sm) = true := by have := (h22.out (List.eq_nil_of_length_eq_zero (by have := HAL2.out; omega))).2; simp [this]
                have hg : decide ((al : Int) > 0) = false := decide_eq_false (by omega)
                have hg2 : decide (0 < al) = false := decide_eq_false (by omega)
                have hg3 : decide ((0 : Int) < (al : Int)) = false := decide_eq_false (by omega)
                have hg4 : ¬ 0 < al := by omega
                clear h0
                go_wp2
                go_ret
                exact ⟨rfl, HBB.out.trans (HBy.out.mono (by omega))⟩
              · have hg : decide ((al : Int) > 0) = true := decide_eq_true (by omega)
                have hg2 : decide (0 < al) = true := decide_eq_true (by omega)
                have hg3 : decide ((0 : Int) < (al : Int)) = true := decide_eq_true (by omega)
                have hg4 : 0 < al := by omega
                clear h0
                go_wp2
                go_ret
                exact ⟨rfl, HBB.out.trans (HBy.out.mono (by omega))⟩
end Go.Proofs.Ytdomipmfghnfaaa.DebtFirst
