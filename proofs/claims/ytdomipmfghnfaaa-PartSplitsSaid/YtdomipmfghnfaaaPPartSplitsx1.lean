-- PRINTED BY print.sh 35421559b90ae4d0a3588c463048766b98c2df88dd9212a6774a882060cdf62d: not written by this session
import Derived.Test.YtdomipmfghnfaaaPPartSplitsx0
namespace Go.Proofs.Ytdomipmfghnfaaa.PPartSplits
open Go.RowKit Go.Proofs.YtdomipmfghnfaaaW.PrintWords Go.Proofs.YtdomipmfghnfaaaW.PrintLast Go.Proofs.YtdomipmfghnfaaaW.PrintMore
attribute [local go_sem] max2_int min2_int max_two min_two max_three min_three max_four min_four   -- for this text's walks alone
set_option linter.unusedVariables false
set_option linter.unusedSimpArgs false

/-! ### vendmeterkeep_picked: function 15 -/
def vendmeterkeep_picked.f (a0 : Int) (a1 : Int) : Option (Int) := if a0 < 0 then (if a1 = 0 then (none) else (some (Int.tmod (wrap64 (-(wrap64 (a0 + 1)))) a1))) else (if a1 = 0 then (none) else (some (Int.tmod a0 a1)))
set_option maxHeartbeats 8000000 in
set_option maxRecDepth 100000 in
theorem vendmeterkeep_picked.calls (a0 : Int) (a1 : Int) (r : Int) (w : World) (h : vendmeterkeep_picked.f a0 a1 = some r) :
    Calls Try.prog 15 #[.int .i64 a0, .int .i64 a1] w fun e w' => e = .returned (.int .i64 r) ∧ Drawn0 w w' := by
  have H : (if a0 < 0 then (if a1 = 0 then (none) else (some (Int.tmod (wrap64 (-(wrap64 (a0 + 1)))) a1))) else (if a1 = 0 then (none) else (some (Int.tmod a0 a1)))) = some r := h
  clear h
  by_cases c3 : a0 < 0
  · rw [if_pos c3] at H
    have c3b0 : decide (a0 < 0) = true := decide_eq_true c3
    clear c3
    by_cases c4 : a1 = 0
    · rw [if_pos c4] at H
      exact absurd H (by simp)
    · rw [if_neg c4] at H
      have c4b0 : (a1 == 0) = false := beq_eq_false_iff_ne.mpr c4
      have c4b1 : (a1 != 0) = true := bne_iff_ne.mpr c4
      obtain rfl := Option.some.inj H
      go_enter Try.func15, Try.ntmps15
      go_wp2
      go_ret
      exact ⟨by first | rfl | (simp; done) | (simp [*]; done), by repeat (first | exact Drawn0.refl _ | apply Drawn0.step)⟩
  · rw [if_neg c3] at H
    have c3b0 : decide (a0 < 0) = false := decide_eq_false c3
    clear c3
    by_cases c5 : a1 = 0
    · rw [if_pos c5] at H
      exact absurd H (by simp)
    · rw [if_neg c5] at H
      have c5b0 : (a1 == 0) = false := beq_eq_false_iff_ne.mpr c5
      have c5b1 : (a1 != 0) = true := bne_iff_ne.mpr c5
      obtain rfl := Option.some.inj H
      go_enter Try.func15, Try.ntmps15
      go_wp2
      go_ret
      exact ⟨by first | rfl | (simp; done) | (simp [*]; done), by repeat (first | exact Drawn0.refl _ | apply Drawn0.step)⟩

/-! ### cents_within: function 34 -/
def cents_within.f (a0 : Int) (a1 : Int) (a2 : Int) : Option (Bool) := if a1 ≤ a0 then (some (decide (a0 ≤ a2))) else (some false)
set_option maxHeartbeats 8000000 in
set_option maxRecDepth 100000 in
theorem cents_within.calls (a0 : Int) (a1 : Int) (a2 : Int) (r : Bool) (w : World) (h : cents_within.f a0 a1 a2 = some r) :
    Calls Try.prog 34 #[.int .i64 a0, .int .i64 a1, .int .i64 a2] w fun e w' => e = .returned (.bool r) ∧ Drawn0 w w' := by
  have H : (if a1 ≤ a0 then (some (decide (a0 ≤ a2))) else (some false)) = some r := h
  clear h
  by_cases c4 : a1 ≤ a0
  · rw [if_pos c4] at H
    have c4b0 : decide (a1 ≤ a0) = true := decide_eq_true c4
    clear c4
    obtain rfl := Option.some.inj H
    go_enter Try.func34, Try.ntmps34
    go_wp2
    go_ret
    exact ⟨by first | rfl | (simp; done) | (simp [*]; done), by repeat (first | exact Drawn0.refl _ | apply Drawn0.step)⟩
  · rw [if_neg c4] at H
    have c4b0 : decide (a1 ≤ a0) = false := decide_eq_false c4
    clear c4
    obtain rfl := Option.some.inj H
    go_enter Try.func34, Try.ntmps34
    go_wp2
    go_ret
    exact ⟨by first | rfl | (simp; done) | (simp [*]; done), by repeat (first | exact Drawn0.refl _ | apply Drawn0.step)⟩

/-! ### cents_Part: function 17 -/
def cents_Part.f (a0 : Int) (a1 : Int) : Option (Int × Int) := (cents_within.f a0 0 1000000000000).bind fun t101 => (if t101 = true then ((cents_within.f a1 0 10000).bind fun t102 => (if t102 = true then (some (wrap64 (Int.tdiv (wrap64 (a0 * a1)) 10000), 0)) else (some (0, 2)))) else (some (0, 2)))
set_option maxHeartbeats 8000000 in
set_option maxRecDepth 100000 in
theorem cents_Part.calls (a0 : Int) (a1 : Int) (r1 : Int) (r2 : Int) (w : World) (h : cents_Part.f a0 a1 = some (r1, r2)) :
    Calls Try.prog 17 #[.int .i64 a0, .int .i64 a1] w fun e w' => e = .returned (.tuple #[.int .i64 r1, .int .i64 r2]) ∧ Drawn0 w w' := by
  have H : ((cents_within.f a0 0 1000000000000).bind fun t101 => (if t101 = true then ((cents_within.f a1 0 10000).bind fun t102 => (if t102 = true then (some (wrap64 (Int.tdiv (wrap64 (a0 * a1)) 10000), 0)) else (some (0, 2)))) else (some (0, 2)))) = some (r1, r2) := h
  clear h
  replace H := Option.bind_eq_some_iff.mp H
  obtain ⟨t101, A30, H⟩ := H
  replace H : (if t101 = true then ((cents_within.f a1 0 10000).bind fun t102 => (if t102 = true then (some (wrap64 (Int.tdiv (wrap64 (a0 * a1)) 10000), 0)) else (some (0, 2)))) else (some (0, 2))) = some (r1, r2) := H
  have A3 := Aside0.mk A30
  clear A30
  by_cases c4 : t101 = true
  · subst c4
    have H1 : ((cents_within.f a1 0 10000).bind fun t102 => (if t102 = true then (some (wrap64 (Int.tdiv (wrap64 (a0 * a1)) 10000), 0)) else (some (0, 2)))) = some (r1, r2) := by rw [if_pos rfl] at H; exact H
    clear H
    have H := H1
    clear H1
    replace H := Option.bind_eq_some_iff.mp H
    obtain ⟨t102, A50, H⟩ := H
    replace H : (if t102 = true then (some (wrap64 (Int.tdiv (wrap64 (a0 * a1)) 10000), 0)) else (some (0, 2))) = some (r1, r2) := H
    have A5 := Aside0.mk A50
    clear A50
    by_cases c6 : t102 = true
    · subst c6
      have H1 : (some (wrap64 (Int.tdiv (wrap64 (a0 * a1)) 10000), 0)) = some (r1, r2) := by rw [if_pos rfl] at H; exact H
      clear H
      have H := H1
      clear H1
      simp only [Option.some.injEq, Prod.mk.injEq] at H
      obtain ⟨rfl, rfl⟩ := H
      go_enter Try.func17, Try.ntmps17
      go_wp2_with (first | ((with_reducible refine gate_callee (f := 34) rfl ?_); refine goesL_ (some 7) rfl rfl Try.func34 (by kernel_rfl) rfl #[.int .i64 a0, .int .i64 0, .int .i64 1000000000000] rfl (by (try simp only [List.map_toArray, List.map_cons, List.map_nil]); first | done | rfl | (simp only [List.length_drop, List.length_take]; rfl)) ?_; (with_reducible refine (cents_within.calls a0 0 1000000000000 true _ A3.out).mono ?_); rintro e w' ⟨rfl, ⟨nd, rfl⟩⟩; refine ⟨_, rfl, ?_⟩) | (go_at_call 34; (with_reducible refine (cents_within.calls a1 0 10000 true _ A5.out).mono ?_); rintro e w' ⟨rfl, ⟨nd, rfl⟩⟩))
      go_ret2
      exact ⟨by first | rfl | (simp; done) | (simp [*]; done), by repeat (first | exact Drawn0.refl _ | apply Drawn0.step)⟩
    · replace c6 := Bool.eq_false_iff.mpr c6
      subst c6
      have H1 : (some (0, 2)) = some (r1, r2) := by rw [if_neg (show ¬ (false = true) by decide)] at H; exact H
      clear H
      have H := H1
      clear H1
      simp only [Option.some.injEq, Prod.mk.injEq] at H
      obtain ⟨rfl, rfl⟩ := H
      go_enter Try.func17, Try.ntmps17
      go_wp2_with (first | ((with_reducible refine gate_callee (f := 34) rfl ?_); refine goesL_ (some 7) rfl rfl Try.func34 (by kernel_rfl) rfl #[.int .i64 a0, .int .i64 0, .int .i64 1000000000000] rfl (by (try simp only [List.map_toArray, List.map_cons, List.map_nil]); first | done | rfl | (simp only [List.length_drop, List.length_take]; rfl)) ?_; (with_reducible refine (cents_within.calls a0 0 1000000000000 true _ A3.out).mono ?_); rintro e w' ⟨rfl, ⟨nd, rfl⟩⟩; refine ⟨_, rfl, ?_⟩) | (go_at_call 34; (with_reducible refine (cents_within.calls a1 0 10000 false _ A5.out).mono ?_); rintro e w' ⟨rfl, ⟨nd, rfl⟩⟩))
      go_ret2
      exact ⟨by first | rfl | (simp; done) | (simp [*]; done), by repeat (first | exact Drawn0.refl _ | apply Drawn0.step)⟩
  · replace c4 := Bool.eq_false_iff.mpr c4
    subst c4
    have H1 : (some (0, 2)) = some (r1, r2) := by rw [if_neg (show ¬ (false = true) by decide)] at H; exact H
    clear H
    have H := H1
    clear H1
    simp only [Option.some.injEq, Prod.mk.injEq] at H
    obtain ⟨rfl, rfl⟩ := H
    go_enter Try.func17, Try.ntmps17
    go_wp2_with (first | ((with_reducible refine gate_callee (f := 34) rfl ?_); refine goesL_ (some 7) rfl rfl Try.func34 (by kernel_rfl) rfl #[.int .i64 a0, .int .i64 0, .int .i64 1000000000000] rfl (by (try simp only [List.map_toArray, List.map_cons, List.map_nil]); first | done | rfl | (simp only [List.length_drop, List.length_take]; rfl)) ?_; (with_reducible refine (cents_within.calls a0 0 1000000000000 false _ A3.out).mono ?_); rintro e w' ⟨rfl, ⟨nd, rfl⟩⟩; refine ⟨_, rfl, ?_⟩))
    go_ret2
    exact ⟨by first | rfl | (simp; done) | (simp [*]; done), by repeat (first | exact Drawn0.refl _ | apply Drawn0.step)⟩

/-! ### vendmeterkeep_PartSplits: function 4 -/
def vendmeterkeep_PartSplits.j0 : Nat → Int → Int → Int → Int → Bool → Option (Bool)
  | 0, _, _, _, _, _ => none
  | k + 1, x5, x6, x7, x9, x41 => if x41 = true then (some false) else (if (Int.tmod (wrap64 (x5 * x6)) 10000) = 0 then (some ((wrap64 (x7 + x9)) == x5)) else (some ((wrap64 (x7 + x9)) == (wrap64 (x5 - 1)))))
def vendmeterkeep_PartSplits.f (k : Nat) (a0 : Int) (a1 : Int) : Option (Bool) := (vendmeterkeep_picked.f a0 1000000000001).bind fun t103 => ((vendmeterkeep_picked.f a1 10001).bind fun t104 => ((cents_Part.f t103 t104).bind fun bt105 => ((cents_Part.f t103 (wrap64 (10000 - t104))).bind fun bt107 => (if bt105.2 = 0 then (if bt107.2 = 0 then (if bt105.1 < 0 then (vendmeterkeep_PartSplits.j0 k t103 t104 bt105.1 bt107.1 true) else (vendmeterkeep_PartSplits.j0 k t103 t104 bt105.1 bt107.1 (decide (bt107.1 < 0)))) else (vendmeterkeep_PartSplits.j0 k t103 t104 bt105.1 bt107.1 true)) else (vendmeterkeep_PartSplits.j0 k t103 t104 bt105.1 bt107.1 true)))))
theorem vendmeterkeep_PartSplits.mono_l : ∀ k, (∀ y0 y1 y2 y3 y4, LeO (vendmeterkeep_PartSplits.j0 k y0 y1 y2 y3 y4) (vendmeterkeep_PartSplits.j0 (k + 1) y0 y1 y2 y3 y4))
  | 0 => fun _ _ _ _ _ r h => by simp [vendmeterkeep_PartSplits.j0] at h
  | k + 1 => by
    have ih0 := vendmeterkeep_PartSplits.mono_l k
    · intro y0 y1 y2 y3 y4
      unfold vendmeterkeep_PartSplits.j0
      repeat' first
      | (with_reducible exact ih0 _ _ _ _ _)
      | (with_reducible exact LeO.refl _)
      | (with_reducible exact LeO.none _)
      | (with_reducible refine LeO.ite ?_ ?_)
      | (with_reducible refine LeO.bind ?_ (fun _ => ?_))
      | exact ih0 _ _ _ _ _
      | exact LeO.none _
      | refine LeO.ite ?_ ?_
      | refine LeO.bind ?_ (fun _ => ?_)
theorem vendmeterkeep_PartSplits.mono : ∀ a0 a1 k, LeO (vendmeterkeep_PartSplits.f k a0 a1) (vendmeterkeep_PartSplits.f (k + 1) a0 a1) := by
  intro a0 a1 k
  have ih0 := vendmeterkeep_PartSplits.mono_l k
  unfold vendmeterkeep_PartSplits.f
  repeat' first
      | (with_reducible exact ih0 _ _ _ _ _)
      | (with_reducible exact LeO.refl _)
      | (with_reducible exact LeO.none _)
      | (with_reducible refine LeO.ite ?_ ?_)
      | (with_reducible refine LeO.bind ?_ (fun _ => ?_))
      | exact ih0 _ _ _ _ _
      | exact LeO.none _
      | refine LeO.ite ?_ ?_
      | refine LeO.bind ?_ (fun _ => ?_)
set_option maxHeartbeats 8000000 in
set_option maxRecDepth 100000 in
theorem vendmeterkeep_PartSplits.calls (k : Nat) (a0 : Int) (a1 : Int) (r : Bool) (w : World) (h : vendmeterkeep_PartSplits.f k a0 a1 = some r) :
    Calls Try.prog 4 #[.int .i64 a0, .int .i64 a1] w fun e w' => e = .returned (.bool r) ∧ Drawn0 w w' := by
  have H : ((vendmeterkeep_picked.f a0 1000000000001).bind fun t103 => ((vendmeterkeep_picked.f a1 10001).bind fun t104 => ((cents_Part.f t103 t104).bind fun bt105 => ((cents_Part.f t103 (wrap64 (10000 - t104))).bind fun bt107 => (if bt105.2 = 0 then (if bt107.2 = 0 then (if bt105.1 < 0 then (vendmeterkeep_PartSplits.j0 k t103 t104 bt105.1 bt107.1 true) else (vendmeterkeep_PartSplits.j0 k t103 t104 bt105.1 bt107.1 (decide (bt107.1 < 0)))) else (vendmeterkeep_PartSplits.j0 k t103 t104 bt105.1 bt107.1 true)) else (vendmeterkeep_PartSplits.j0 k t103 t104 bt105.1 bt107.1 true)))))) = some r := h
  clear h
  replace H := Option.bind_eq_some_iff.mp H
  obtain ⟨t103, A30, H⟩ := H
  replace H : ((vendmeterkeep_picked.f a1 10001).bind fun t104 => ((cents_Part.f t103 t104).bind fun bt105 => ((cents_Part.f t103 (wrap64 (10000 - t104))).bind fun bt107 => (if bt105.2 = 0 then (if bt107.2 = 0 then (if bt105.1 < 0 then (vendmeterkeep_PartSplits.j0 k t103 t104 bt105.1 bt107.1 true) else (vendmeterkeep_PartSplits.j0 k t103 t104 bt105.1 bt107.1 (decide (bt107.1 < 0)))) else (vendmeterkeep_PartSplits.j0 k t103 t104 bt105.1 bt107.1 true)) else (vendmeterkeep_PartSplits.j0 k t103 t104 bt105.1 bt107.1 true))))) = some r := H
  have A3 := Aside0.mk A30
  clear A30
  replace H := Option.bind_eq_some_iff.mp H
  obtain ⟨t104, A40, H⟩ := H
  replace H : ((cents_Part.f t103 t104).bind fun bt105 => ((cents_Part.f t103 (wrap64 (10000 - t104))).bind fun bt107 => (if bt105.2 = 0 then (if bt107.2 = 0 then (if bt105.1 < 0 then (vendmeterkeep_PartSplits.j0 k t103 t104 bt105.1 bt107.1 true) else (vendmeterkeep_PartSplits.j0 k t103 t104 bt105.1 bt107.1 (decide (bt107.1 < 0)))) else (vendmeterkeep_PartSplits.j0 k t103 t104 bt105.1 bt107.1 true)) else (vendmeterkeep_PartSplits.j0 k t103 t104 bt105.1 bt107.1 true)))) = some r := H
  have A4 := Aside0.mk A40
  clear A40
  replace H := Option.bind_eq_some_iff.mp H
  obtain ⟨⟨t105, t106⟩, A50, H⟩ := H
  replace H : ((cents_Part.f t103 (wrap64 (10000 - t104))).bind fun bt107 => (if t106 = 0 then (if bt107.2 = 0 then (if t105 < 0 then (vendmeterkeep_PartSplits.j0 k t103 t104 t105 bt107.1 true) else (vendmeterkeep_PartSplits.j0 k t103 t104 t105 bt107.1 (decide (bt107.1 < 0)))) else (vendmeterkeep_PartSplits.j0 k t103 t104 t105 bt107.1 true)) else (vendmeterkeep_PartSplits.j0 k t103 t104 t105 bt107.1 true))) = some r := H
  have A5 := Aside0.mk A50
  clear A50
  replace H := Option.bind_eq_some_iff.mp H
  obtain ⟨⟨t107, t108⟩, A60, H⟩ := H
  replace H : (if t106 = 0 then (if t108 = 0 then (if t105 < 0 then (vendmeterkeep_PartSplits.j0 k t103 t104 t105 t107 true) else (vendmeterkeep_PartSplits.j0 k t103 t104 t105 t107 (decide (t107 < 0)))) else (vendmeterkeep_PartSplits.j0 k t103 t104 t105 t107 true)) else (vendmeterkeep_PartSplits.j0 k t103 t104 t105 t107 true)) = some r := H
  have A6 := Aside0.mk A60
  clear A60
  have HC7 := Aside0.mk H
  clear H
  go_enter Try.func4, Try.ntmps4
  go_upto_region 5 with (first | ((with_reducible refine gate_callee (f := 15) rfl ?_); refine goesL_ (some 12) rfl rfl Try.func15 (by kernel_rfl) rfl #[.int .i64 a0, .int .i64 1000000000001] rfl (by (try simp only [List.map_toArray, List.map_cons, List.map_nil]); first | done | rfl | (simp only [List.length_drop, List.length_take]; rfl)) ?_; (with_reducible refine (vendmeterkeep_picked.calls a0 1000000000001 t103 _ A3.out).mono ?_); rintro e w' ⟨rfl, ⟨nd, rfl⟩⟩; refine ⟨_, rfl, ?_⟩) | ((with_reducible refine gate_callee (f := 15) rfl ?_); refine goesL_ (some 14) rfl rfl Try.func15 (by kernel_rfl) rfl #[.int .i64 a1, .int .i64 10001] rfl (by (try simp only [List.map_toArray, List.map_cons, List.map_nil]); first | done | rfl | (simp only [List.length_drop, List.length_take]; rfl)) ?_; (with_reducible refine (vendmeterkeep_picked.calls a1 10001 t104 _ A4.out).mono ?_); rintro e w' ⟨rfl, ⟨nd, rfl⟩⟩; refine ⟨_, rfl, ?_⟩) | ((with_reducible refine gate_callee (f := 17) rfl ?_); refine goesL_ (some 18) rfl rfl Try.func17 (by kernel_rfl) rfl #[.int .i64 t103, .int .i64 t104] rfl (by (try simp only [List.map_toArray, List.map_cons, List.map_nil]); first | done | rfl | (simp only [List.length_drop, List.length_take]; rfl)) ?_; (with_reducible refine (cents_Part.calls t103 t104 t105 t106 _ A5.out).mono ?_); rintro e w' ⟨rfl, ⟨nd, rfl⟩⟩; refine ⟨_, rfl, ?_⟩) | ((with_reducible refine gate_callee (f := 17) rfl ?_); refine goesL_ (some 25) rfl rfl Try.func17 (by kernel_rfl) rfl #[.int .i64 t103, .int .i64 (wrap64 (10000 - t104))] rfl (by (try simp only [List.map_toArray, List.map_cons, List.map_nil]); first | done | rfl | (simp only [List.length_drop, List.length_take]; rfl)) ?_; (with_reducible refine (cents_Part.calls t103 (wrap64 (10000 - t104)) t107 t108 _ A6.out).mono ?_); rintro e w' ⟨rfl, ⟨nd, rfl⟩⟩; refine ⟨_, rfl, ?_⟩))
  (try simp only [Act.put, List.setIfInBounds_toArray, List.set_cons_zero, List.set_cons_succ])
  go_cut [41] (fun v41 wc => ∃ (kq : Nat) (x41_6 : Bool), v41 = .bool x41_6 ∧ Aside0 (vendmeterkeep_PartSplits.j0 kq t103 t104 t105 t107 x41_6 = some r) ∧ Aside0 (kq ≤ k) ∧ Drawn0 w wc)
  case first =>
    have H := HC7.out
    clear HC7
    by_cases c8 : t106 = 0
    · rw [if_pos c8] at H
      have c8b0 : (t106 == 0) = true := beq_iff_eq.mpr c8
      have c8b1 : (t106 != 0) = false := bne_eq_false_iff_eq.mpr c8
      clear c8
      (first | rw [c8b0] | (simp only [i64_w, i32_w]; rw [c8b0]) | skip)
      by_cases c9 : t108 = 0
      · rw [if_pos c9] at H
        have c9b0 : (t108 == 0) = true := beq_iff_eq.mpr c9
        have c9b1 : (t108 != 0) = false := bne_eq_false_iff_eq.mpr c9
        clear c9
        by_cases c10 : t105 < 0
        · rw [if_pos c10] at H
          have c10b0 : decide (t105 < 0) = true := decide_eq_true c10
          clear c10
          have H' := Aside0.mk H
          clear H
          go_wp2
          go_meet
          case rel => exact ⟨_, (true), (by first | rfl | (simp; done) | (simp [*]; done)), H', ⟨by first | omega | exact Nat.le_refl _⟩, by repeat (first | exact Drawn0.refl _ | apply Drawn0.step)⟩
        · rw [if_neg c10] at H
          have c10b0 : decide (t105 < 0) = false := decide_eq_false c10
          clear c10
          have H' := Aside0.mk H
          clear H
          go_wp2
          go_meet
          case rel => exact ⟨_, (decide (t107 < 0)), (by first | rfl | (simp; done) | (simp [*]; done)), H', ⟨by first | omega | exact Nat.le_refl _⟩, by repeat (first | exact Drawn0.refl _ | apply Drawn0.step)⟩
      · rw [if_neg c9] at H
        have c9b0 : (t108 == 0) = false := beq_eq_false_iff_ne.mpr c9
        have c9b1 : (t108 != 0) = true := bne_iff_ne.mpr c9
        have H' := Aside0.mk H
        clear H
        go_wp2
        go_meet
        case rel => exact ⟨_, (true), (by first | rfl | (simp; done) | (simp [*]; done)), H', ⟨by first | omega | exact Nat.le_refl _⟩, by repeat (first | exact Drawn0.refl _ | apply Drawn0.step)⟩
    · rw [if_neg c8] at H
      have c8b0 : (t106 == 0) = false := beq_eq_false_iff_ne.mpr c8
      have c8b1 : (t106 != 0) = true := bne_iff_ne.mpr c8
      (first | rw [c8b0] | (simp only [i64_w, i32_w]; rw [c8b0]) | skip)
      have H' := Aside0.mk H
      clear H
      go_wp2
      go_meet
      case rel => exact ⟨_, (true), (by first | rfl | (simp; done) | (simp [*]; done)), H', ⟨by first | omega | exact Nat.le_refl _⟩, by repeat (first | exact Drawn0.refl _ | apply Drawn0.step)⟩
  case rest =>
    clear HC7
    try clear c1
    try clear p2
    try clear c4
    try clear p6
    try clear c8
    try clear c8b0
    try clear c8b1
    try clear c9
    try clear c9b0
    try clear c9b1
    try clear c10
    try clear c10b0
    obtain ⟨kq, x41_6, rfl, HA, HJ6, ⟨mc6, rfl⟩⟩ := hcut
    cases kq with
    | zero => exact absurd HA.out (by simp [vendmeterkeep_PartSplits.j0])
    | succ kj6 =>
      have H := HA.out
      clear HA
      simp only [vendmeterkeep_PartSplits.j0] at H
      by_cases c11 : x41_6 = true
      · subst c11
        have H1 : (some false) = some r := by rw [if_pos rfl] at H; exact H
        clear H
        have H := H1
        clear H1
        obtain rfl := Option.some.inj H
        go_wp2
        go_ret
        exact ⟨by first | rfl | (simp; done) | (simp [*]; done), by repeat (first | exact Drawn0.refl _ | apply Drawn0.step)⟩
      · replace c11 := Bool.eq_false_iff.mpr c11
        subst c11
        have H1 : (if (Int.tmod (wrap64 (t103 * t104)) 10000) = 0 then (some ((wrap64 (t105 + t107)) == t103)) else (some ((wrap64 (t105 + t107)) == (wrap64 (t103 - 1))))) = some r := by rw [if_neg (show ¬ (false = true) by decide)] at H; exact H
        clear H
        have H := H1
        clear H1
        by_cases c12 : (Int.tmod (wrap64 (t103 * t104)) 10000) = 0
        · rw [if_pos c12] at H
          have c12b0 : ((Int.tmod (wrap64 (t103 * t104)) 10000) == 0) = true := beq_iff_eq.mpr c12
          have c12b1 : ((Int.tmod (wrap64 (t103 * t104)) 10000) != 0) = false := bne_eq_false_iff_eq.mpr c12
          clear c12
          obtain rfl := Option.some.inj H
          go_wp2
          go_ret
          exact ⟨by first | rfl | (simp; done) | (simp [*]; done), by repeat (first | exact Drawn0.refl _ | apply Drawn0.step)⟩
        · rw [if_neg c12] at H
          have c12b0 : ((Int.tmod (wrap64 (t103 * t104)) 10000) == 0) = false := beq_eq_false_iff_ne.mpr c12
          have c12b1 : ((Int.tmod (wrap64 (t103 * t104)) 10000) != 0) = true := bne_iff_ne.mpr c12
          obtain rfl := Option.some.inj H
          go_wp2
          go_ret
          exact ⟨by first | rfl | (simp; done) | (simp [*]; done), by repeat (first | exact Drawn0.refl _ | apply Drawn0.step)⟩

/-- THE ONE PURE STATEMENT of vendmeterkeep_PartSplits: yours. -/
def vendmeterkeep_PartSplits.Pure : Prop := ∀ (a0 : Int) (a1 : Int), (Lit.int .i64 a0).wf = true → (Lit.int .i64 a1).wf = true → ∃ k, vendmeterkeep_PartSplits.f k a0 a1 = some true
theorem vendmeterkeep_PartSplits.walk (P : vendmeterkeep_PartSplits.Pure) (a0 : Int) (a1 : Int) (w : World) (w0 : (Lit.int .i64 a0).wf = true) (w1 : (Lit.int .i64 a1).wf = true) :
    Calls Try.prog 4 #[.int .i64 a0, .int .i64 a1] w fun e w' => e = .returned (.bool true) ∧ Below w.heap.size w w' := by
  obtain ⟨k, h⟩ := P a0 a1 w0 w1
  refine (vendmeterkeep_PartSplits.calls k a0 a1 true w h).mono ?_
  rintro e w' ⟨rfl, hd⟩
  exact ⟨rfl, hd.below⟩

end Go.Proofs.Ytdomipmfghnfaaa.PPartSplits
