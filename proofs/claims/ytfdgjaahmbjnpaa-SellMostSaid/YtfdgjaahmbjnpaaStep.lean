/- The laws' helper stepped; raw steps opened. -/
import Derived.Test.YtfdgjaahmbjnpaaMost
import Derived.Test.YtfdgjaahmbjnpaaOpenS
import Derived.Test.YtfdgjaahmbjnpaaDebt
namespace Go.Proofs.Ytfdgjaahmbjnpaa.Tar
open Go.RowKit Go.Proofs.Ytfdgjaahmbjnpaa.Base
set_option linter.unusedVariables false
set_option linter.unusedSimpArgs false
set_option maxRecDepth 20000
theorem opens_ri {H : Type} {enc : TypeId × Value → H} {W : World} : Open.Opens enc Try.prog W 167 (fun (x : Debt.Ow) cs => cs = x.enc ∧ x.ok) := by
  refine Open.opens_struct Try.underlying167 fun cs hl hf => ?_
  rw [show Try.prog.cellsOf 167 = 2 by kernel_rfl] at hl
  match cs, hl with
  | [c0, c1], _ =>
    obtain ⟨x0, e0, f0⟩ := Open.fld hf 0 rfl 0 1 rfl rfl (by kernel_rfl) (Open.opens_int Try.underlying3)
    obtain ⟨x1, e1, f1⟩ := Open.fld hf 1 rfl 1 1 rfl rfl (by kernel_rfl) (Open.opens_int Try.underlying3)
    simp at e0 e1
    subst e0 e1
    exact ⟨⟨x0, x1⟩, rfl, i64_bound f0, i64_bound f1⟩
def upL : List Debt.Ow → Int → Int
  | [], up => up
  | x :: t, up => upL t (up + (1 + pk x.a 1000000))
def stepsL : List Debt.Ow → Int → List Stp
  | [], _ => []
  | x :: t, up => ⟨up + (1 + pk x.a 1000000), 1 + pk x.b 100000⟩ :: stepsL t (up + (1 + pk x.a 1000000))
theorem upL_snoc : ∀ (l : List Debt.Ow) (x : Debt.Ow) (up : Int), upL (l ++ [x]) up = upL l up + (1 + pk x.a 1000000)
  | [], _, _ => rfl
  | y :: t, x, up => upL_snoc t x _
theorem stepsL_snoc : ∀ (l : List Debt.Ow) (x : Debt.Ow) (up : Int), stepsL (l ++ [x]) up = stepsL l up ++ [⟨upL l up + (1 + pk x.a 1000000), 1 + pk x.b 100000⟩]
  | [], _, _ => rfl
  | y :: t, x, up => by
    show _ :: stepsL (t ++ [x]) _ = _ :: (stepsL t _ ++ _)
    rw [stepsL_snoc t x]
    rfl
theorem stepsL_len : ∀ (l : List Debt.Ow) (up : Int), (stepsL l up).length = l.length
  | [], _ => rfl
  | x :: t, up => by simp [stepsL, stepsL_len t]
theorem upL_bd : ∀ (l : List Debt.Ow) (up : Int), up + l.length ≤ upL l up ∧ upL l up ≤ up + 1000000 * l.length
  | [], up => by simp [upL]
  | x :: t, up => by
    have h1 := upL_bd t (up + (1 + pk x.a 1000000))
    have h2 := pk_bound x.a 1000000 (by omega)
    show up + ((x :: t).length : Int) ≤ upL t _ ∧ upL t _ ≤ _
    simp only [List.length_cons]
    omega
def steppedL (l : List Debt.Ow) : List Stp := stepsL (l.take 7) 0 ++ [⟨10000000, 1 + upL (l.take 7) 0 % 100000⟩]
theorem steps_TG (c : Int) (c0 : 1 ≤ c) (c1 : c ≤ 100000) : ∀ (l : List Debt.Ow) (up : Int), 0 ≤ up → up + 1000000 * l.length < 10000000 → TG up (stepsL l up ++ [⟨10000000, c⟩])
  | [], up, h0, h => ⟨by simp at h; exact h, Int.le_refl _, c0, c1, rfl⟩
  | x :: t, up, h0, h => by
    have h2 := pk_bound x.a 1000000 (by omega)
    have h3 := pk_bound x.b 100000 (by omega)
    simp only [List.length_cons] at h
    refine ⟨show up < up + (1 + pk x.a 1000000) by omega, show up + (1 + pk x.a 1000000) ≤ 10000000 by omega, show 1 ≤ 1 + pk x.b 100000 by omega, show 1 + pk x.b 100000 ≤ 100000 by omega, ?_⟩
    exact steps_TG c c0 c1 t (up + (1 + pk x.a 1000000)) (by omega) (by omega)
theorem stepped_TG (l : List Debt.Ow) : TG 0 (steppedL l) := by
  refine steps_TG _ (by omega) (by omega) _ 0 (by omega) ?_
  have : (l.take 7).length ≤ 7 := by simp; omega
  omega
theorem stepped_len (l : List Debt.Ow) : 1 ≤ (steppedL l).length ∧ (steppedL l).length ≤ 8 := by
  unfold steppedL
  rw [List.length_append, stepsL_len]
  simp
  omega
theorem stepped_own (l : List Debt.Ow) (L : Option Addr) (d : Nat) (w : World) (hl : RdE 2 Debt.Ow.enc w L l) (hk : ∀ x ∈ l, x.ok) :
    Calls Try.prog 35 #[.slice L l.length d] w fun e w' => ∃ B q, e = .returned (.slice B (steppedL l).length q) ∧ RdE 2 Stp.enc w' B (steppedL l) ∧ (∀ ad, B = some ad → w.heap.size ≤ ad.block) ∧ Below w.heap.size w w' := by
  have hmx := hl.1
  have HL := Lib.hid hl
  have HK := Lib.hid hk
  clear hl hk
  go_enter Try.func35, Try.ntmps35
  go_wp2
  go_loopw [3, 4, 5] (fun b up i wr => ∃ j : Nat, j ≤ l.length ∧ j ≤ 7 ∧ i = .int .i64 j ∧ up = .int .i64 (upL (l.take j) 0) ∧ wr.ownsRow w.heap.size 118 2 b (stepsL (l.take j) 0).length ((stepsL (l.take j) 0).flatMap Stp.enc) ∧ Below w.heap.size w wr) (fun _ _ i _ => l.length - (intOf i).toNat)
  case atStart => exact ⟨0, by omega, by omega, rfl, rfl, World.ownsRow_nil _ _ _ _, Below.refl _ _⟩
  case round =>
    obtain ⟨j, hj, hj2, rfl, rfl, hown, hbl⟩ := hrel
    have hlen : (stepsL (l.take j) 0).length = j := by rw [stepsL_len]; simp; omega
    have hub := upL_bd (l.take j) 0
    have htl : (l.take j).length = j := by simp; omega
    have HLN := Lib.hid hlen
    have HO := Lib.hid hown
    have HB := Lib.hid hbl
    rw [htl] at hub
    obtain ⟨hub0, hub1⟩ := hub
    have hwr := hbl.size
    clear hown hbl hlen htl
    by_cases hlt : j < l.length ∧ j < 7
    · obtain ⟨h1, h2⟩ := hlt
      obtain ⟨ad, hL, hc0, hc1⟩ := (HL.out.below HB.out).at2 j h1 _ _ rfl
      subst hL
      obtain ⟨⟨x0, x1⟩, x2, x3⟩ := HK.out l[j] (List.getElem_mem h1)
      have HS := Lib.hid (show stepsL (l.take (j + 1)) 0 = stepsL (l.take j) 0 ++ [⟨upL (l.take j) 0 + (1 + pk l[j].a 1000000), 1 + pk l[j].b 100000⟩] by rw [List.take_succ_eq_append_getElem h1, stepsL_snoc])
      have HU := Lib.hid (show upL (l.take (j + 1)) 0 = upL (l.take j) 0 + (1 + pk l[j].a 1000000) by rw [List.take_succ_eq_append_getElem h1, upL_snoc])
      have hj0 : (0 : Int) ≤ (j : Int) := by omega
      have hjl : (j : Int) < (l.length : Int) := by omega
      have hj7 : (j : Int) < 7 := by omega
      have y1 := pk_bound l[j].a 1000000 (by omega)
      have y2 := pk_bound l[j].b 100000 (by omega)
      have HP := Lib.hid (picked_any l[j].a 1000000)
      have HQ := Lib.hid (picked_any l[j].b 100000)
      generalize l[j].a = xa at *
      generalize l[j].b = xb at *
      generalize pk xa 1000000 = pa at *
      generalize pk xb 100000 = pb at *
      generalize upL (l.take j) 0 = up at *
      have hA2 : ((stepsL (l.take j) 0).length + 1) * 16 ≤ 140737488355328 := by rw [HLN.out]; omega
      go_wp2_with (fail)
      go_at_call 10
      refine (HP.out _ x0 x1 (by omega)).mono ?_
      rintro e w' ⟨rfl, rfl⟩
      go_wp2_with (fail)
      go_at_call 10
      refine (HQ.out _ x2 x3 (by omega)).mono ?_
      rintro e w' ⟨rfl, rfl⟩
      go_wp2_with (at_builtin; refine app1 (w0 := w) w.heap.size rfl (.tmp 25) (.tmp 35) 55 118 (.agg #[.int .i64 0, .int .i64 0]) 2 16 rfl Try.underlying55 info_st rfl (by decide) (by decide) _ _ _ [.int .i64 (up + (1 + pa)), .int .i64 (1 + pb)] rfl rfl rfl (by simp [Value.oneCell']) HO.out HB.out hwr hA2 ?_; intro v1 w3 hown3 hb3 _ _; have HO3 := Lib.hid hown3; have HB3 := Lib.hid hb3; clear hown3 hb3)
      go_roundw
      case rel =>
        refine ⟨j + 1, by omega, by omega, by go_num, by rw [HU.out], ?_, HB3.out⟩
        rw [HS.out, List.length_append, List.flatMap_append]
        exact HO3.out
      case measure => simp [intOf]; omega
    · have hfin : l.take j = l.take 7 := by
        rcases Nat.lt_or_ge j l.length with h | h
        · have : j = 7 := by omega
          rw [this]
        · rw [List.take_of_length_le (by omega), List.take_of_length_le (by omega)]
      have HF := Lib.hid hfin
      have hA2 : ((stepsL (l.take j) 0).length + 1) * 16 ≤ 140737488355328 := by rw [HLN.out]; omega
      have HST := Lib.hid (show steppedL l = stepsL (l.take j) 0 ++ [⟨10000000, 1 + upL (l.take j) 0 % 100000⟩] by unfold steppedL; rw [HF.out])
      clear hfin
      generalize upL (l.take j) 0 = up at *
      have hup : up.tmod 100000 = up % 100000 := Int.tmod_eq_emod_of_nonneg (by omega)
      by_cases hlt1 : j < l.length
      · have hj7 : ¬ (j : Int) < 7 := by omega
        go_wp2_with (at_builtin; refine app1 (w0 := w) w.heap.size rfl (.tmp 37) (.tmp 42) 55 118 (.agg #[.int .i64 0, .int .i64 0]) 2 16 rfl Try.underlying55 info_st rfl (by decide) (by decide) _ _ _ [.int .i64 10000000, .int .i64 (1 + up % 100000)] rfl rfl rfl (by simp [Value.oneCell']) HO.out HB.out hwr hA2 ?_; intro v1 w3 hown3 hb3 _ _; obtain ⟨A, cc, rfl, hr⟩ := own_read (enc := Stp.enc) (size := 2) (xs := steppedL l) (fun _ => rfl) (by decide) (by rw [HST.out, List.length_append, List.flatMap_append]; exact hown3); have HAD := Lib.hid (show ∀ ad, A = some ad → w.heap.size ≤ ad.block from fun ad e => (hown3.lt ad.block (by rw [e]; rfl)).1); have HO3 := Lib.hid hr; have HB3 := Lib.hid hb3; clear hown3 hb3 hr)
        go_ret
        exact ⟨A, ⟨cc, rfl⟩, HO3.out, HAD.out, HB3.out⟩
      · have hjl : ¬ (j : Int) < (l.length : Int) := by omega
        go_wp2_with (at_builtin; refine app1 (w0 := w) w.heap.size rfl (.tmp 37) (.tmp 42) 55 118 (.agg #[.int .i64 0, .int .i64 0]) 2 16 rfl Try.underlying55 info_st rfl (by decide) (by decide) _ _ _ [.int .i64 10000000, .int .i64 (1 + up % 100000)] rfl rfl rfl (by simp [Value.oneCell']) HO.out HB.out hwr hA2 ?_; intro v1 w3 hown3 hb3 _ _; obtain ⟨A, cc, rfl, hr⟩ := own_read (enc := Stp.enc) (size := 2) (xs := steppedL l) (fun _ => rfl) (by decide) (by rw [HST.out, List.length_append, List.flatMap_append]; exact hown3); have HAD := Lib.hid (show ∀ ad, A = some ad → w.heap.size ≤ ad.block from fun ad e => (hown3.lt ad.block (by rw [e]; rfl)).1); have HO3 := Lib.hid hr; have HB3 := Lib.hid hb3; clear hown3 hb3 hr)
        go_ret
        exact ⟨A, ⟨cc, rfl⟩, HO3.out, HAD.out, HB3.out⟩
theorem stepped_any (l : List Debt.Ow) (L : Option Addr) (d : Nat) (w : World) (hl : RdE 2 Debt.Ow.enc w L l) (hk : ∀ x ∈ l, x.ok) :
    Calls Try.prog 35 #[.slice L l.length d] w fun e w' => ∃ B q, e = .returned (.slice B (steppedL l).length q) ∧ RdE 2 Stp.enc w' B (steppedL l) ∧ Below w.heap.size w w' :=
  (stepped_own l L d w hl hk).mono fun e w' ⟨B, q, h1, h2, _, h4⟩ => ⟨B, q, h1, h2, h4⟩
end Go.Proofs.Ytfdgjaahmbjnpaa.Tar
