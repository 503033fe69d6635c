/- Slices of slices of words; the contract of slots. -/
import Derived.Test.YthalkihhkkgkiaaSlot2
import Derived.Test.YthalkihhkkgkiaaOpenS
namespace Go.Proofs.Ythalkihhkkgkiaa.Cell
open Go.RowKit Go.Proofs.Ythalkihhkkgkiaa.Base Go.Proofs.Ythalkihhkkgkiaa.Cell
set_option linter.unusedVariables false
set_option linter.unusedSimpArgs false
set_option maxRecDepth 20000

/-- A slice of slices of words. -/
def RdS (w : World) (A : Option Addr) (recs : List (List UInt32)) : Prop :=
  recs.length ≤ 9223372036854775807 ∧ (recs ≠ [] → ∃ ad, A = some ad ∧ ∀ i r, recs[i]? = some r → ∃ B c, w.cell? (ad.add i) = some (.slice B r.length c) ∧ RdE 1 encW w B r)
theorem RdS.below {w w1 : World} {A : Option Addr} {recs : List (List UInt32)} (h : RdS w A recs) (hb : Below w.heap.size w w1) : RdS w1 A recs :=
  ⟨h.1, fun hn => by
    obtain ⟨ad, e, hc⟩ := h.2 hn
    refine ⟨ad, e, fun i r hr => ?_⟩
    obtain ⟨B, c, h1, h2⟩ := hc i r hr
    exact ⟨B, c, (hb.cell (World.block_lt_of_cell? w _ h1)).trans h1, h2.below hb⟩⟩
theorem RdS.at {w : World} {A : Option Addr} {recs : List (List UInt32)} (h : RdS w A recs) (i : Nat) (hi : i < recs.length) : ∃ ad, A = some ad ∧ ∃ B c, w.cell? (ad.add i) = some (.slice B (recs[i]'hi).length c) ∧ RdE 1 encW w B (recs[i]'hi) := by
  obtain ⟨ad, e, hc⟩ := h.2 (by intro hn; subst hn; simp at hi)
  exact ⟨ad, e, hc i _ (List.getElem?_eq_getElem hi)⟩
open Go.ChangeShapes Go.WideShapes Go.ChangeAt in
theorem opens_words {H : Type} {enc : TypeId × Value → H} {W : World} : Open.Opens enc Try.prog W 24 (fun (xs : List UInt32) cs => ∃ A c, cs = [.slice A xs.length c] ∧ xs.length ≤ c ∧ Open.RdR 1 (fun (x : UInt32) cs => cs = encW x) W A xs) :=
  Open.opens_slice Try.underlying24 (by kernel_rfl) (Open.opens_u32 Try.underlying72)
theorem RdS.of {W : World} {A : Option Addr} {recs : List (List UInt32)} (h : Open.RdR 1 (fun (xs : List UInt32) cs => ∃ A c, cs = [Value.slice A xs.length c] ∧ xs.length ≤ c ∧ Open.RdR 1 (fun (x : UInt32) cs => cs = encW x) W A xs) W A recs) : RdS W A recs :=
  ⟨h.1, fun hn => by
    obtain ⟨ad, e, hc⟩ := h.2 hn
    refine ⟨ad, e, fun i r hr => ?_⟩
    obtain ⟨cs, _, ⟨B, c, rfl, _, hr⟩, hcell⟩ := hc i r hr
    exact ⟨B, c, by have := hcell 0 _ rfl; simpa using this, hr.toE⟩⟩
theorem apply_all (cw : List UInt32) (ws : List Wr) (A L : Option Addr) (c d : Nat) (w : World) (hc : RdE 1 encW w A cw) (hws : RdE 2 Wr.enc w L ws) (h0 : 1 ≤ cw.length) (h1 : cw.length ≤ 2048)
    (hw : ws.length ≤ 4096) (hd : ws.length ≤ d) (hin : ∀ x ∈ ws, x.at_ < cw.length) :
    Calls Try.prog 17 #[.slice A cw.length c, .slice L ws.length d, .int .i64 (ws.length : Int)] w fun e w' => ∃ B q, e = .returned (.tuple #[.slice B (applyL cw ws).length q, .int .i64 0]) ∧ OwW w.heap.size w' B q (applyL cw ws) ∧ Below w.heap.size w w' := by
  have := apply_any cw ws ws.length ws.length A L c d w hc hws h0 h1 hw hd hin rfl (Nat.le_refl _)
  rwa [List.take_of_length_le (Nat.le_refl _)] at this
set_option maxHeartbeats 4000000 in
theorem slots_any (n : Nat) (recs : List (List UInt32)) (A : Option Addr) (q0 : Nat) (w : World) (hr : RdS w A recs) (h0 : 1 ≤ n) (hn : n ≤ 64) :
    Calls Try.prog 12 #[.int .i64 (n : Int), .slice A recs.length q0] w fun e w' => ∃ B p C r c old, e = .returned (.tuple #[.slice B c.length p, .slice C old.length r, .bool true]) ∧ Holds c n old ∧ OwW w.heap.size w' B p c ∧ OwW w.heap.size w' C r old ∧ Below w.heap.size w w' := by
  obtain ⟨i0, hi, hz0, hz1, hz2⟩ := info_parts info_u32
  have HR := Lib.hid hr
  have hmx := hr.1
  have HI := Lib.hid hi
  clear hr
  have hfl : (freshL n).length = 2 * (n + 1) := by simp [freshL]; omega
  have hfh := Lib.hid (fresh_holds n)
  have hfi : (((freshL n).length : Int) != 2 * ((n : Int) + 1)) = false := by rw [hfl]; simp
  have hfn : ((freshL n).length != 2 * (n + 1)) = false := by rw [hfl]; simp
  have HF := Lib.hid (fun w => fresh_any n w h0 hn)
  clear hfl
  generalize freshL n = fr at *
  go_enter Try.func12, Try.ntmps12
  go_wp2_with (fail)
  go_at_call 25
  refine (HF.out _).mono ?_
  rintro e w1 ⟨B, q, rfl, ho, hb⟩
  have HO1 := Lib.hid ho
  have HB1 := Lib.hid hb
  clear ho hb
  go_wp2_with (at_make; refine wpList_make_full _ rfl (.tmp 31) (.tmp 31) 24 rfl w1.heap.size 72 i0 (.int .u32 0) 1 Try.underlying24 HI.out hz0 hz1 .i64 .i64 _ _ n rfl rfl rfl rfl ?m1 ?m2 ?m3 ?_; (case m1 => rw [hz2]; omega); (case m2 => simp [maxLen]; omega); (case m3 => exact Nat.le_refl _); intro w2 ho2 hg2; have ho3 := ho2; rw [made_words] at ho3; have HO2 := Lib.hid ho3; have HB2 := Lib.hid (HB1.out.trans (((Below.refl w1.heap.size w1).grown hg2 (Nat.le_refl _) (by simp)).mono HB1.out.size)); have HOB := Lib.hid (own_kept HO1.out ((Below.refl w1.heap.size w1).grown hg2 (Nat.le_refl _) (by simp))); clear ho2 ho3 hg2)
  have hmn : (List.replicate n (0 : UInt32)).length = n := by simp
  go_loopg [7, 9, 10] recs.length (fun m b o i wr => ∃ (k : Nat) (c old : List UInt32) (B : Option Addr) (p : Nat) (C : Option Addr) (r : Nat), m + k = recs.length ∧ k ≤ 10 ∧ i = .int .i64 k ∧ b = .slice B c.length p ∧ o = .slice C old.length r ∧ Holds c n old ∧ OwW w.heap.size wr B p c ∧ OwW w.heap.size wr C r old ∧ Below w.heap.size w wr)
  case atStart => exact ⟨0, fr, List.replicate n 0, B, q, some ⟨w1.heap.size, 0, none⟩, n, by omega, by omega, rfl, rfl, by rw [hmn], hfh.out, HOB.out, by unfold OwW; rw [hmn]; exact own_less HO2.out HB1.out.size, HB2.out⟩
  case round =>
    clear HO1 HB1 HO2 HB2 HOB hfh hfi hfn HF
    obtain ⟨k, c, old, B1, p, C, r, hk, hk10, rfl, rfl, rfl, hh, hoc, hoo, hbl⟩ := hrel
    have HO := Lib.hid hoc
    have HP := Lib.hid hoo
    have HB := Lib.hid hbl
    have HH := Lib.hid hh
    clear hoc hoo hbl hh
    by_cases hlt : k < recs.length ∧ k < 10
    · obtain ⟨h1, h2⟩ := hlt
      obtain ⟨ad, rfl, D, d, hcell, hrd⟩ := (HR.out.below HB.out).at k h1
      have hki : (k : Int) < (recs.length : Int) := by omega
      have hk0 : (0 : Int) ≤ (k : Int) := by omega
      have hk1 : (k : Int) < 10 := by omega
      obtain ⟨x, hx⟩ : ∃ x, x = recs[k] := ⟨_, rfl⟩
      rw [← hx] at hcell hrd
      clear hx
      have HT := Lib.hid (fun w hr => fitted_any x n D d w hr (by omega))
      have hfl := Lib.hid (fitL_len x n)
      have HRD := Lib.hid hrd
      clear hrd
      generalize fitL x n = rec at *
      go_wp2_with (fail)
      go_at_call 15
      refine (HT.out _ HRD.out).mono ?_
      rintro e v1 ⟨F, f, rfl, ho, hb⟩
      have HF1 := Lib.hid ho
      have HC1 := Lib.hid (own_kept HO.out hb)
      have HB1 := Lib.hid (HB.out.trans (hb.mono HB.out.size))
      clear ho hb hcell
      obtain ⟨s, hs, _⟩ := HH.out.slot
      have hs2 := newer_lt hs
      have HST := Lib.hid (fun w hc hr => store_any c old rec n s B1 F p f w hc hr HH.out hs h0 hn hfl.out)
      have hwl := Lib.hid (storeW_len n s (markN c n s) rec)
      have hwi := Lib.hid (storeW_in n s (markN c n s) hs2 rec hfl.out)
      have hall := Lib.hid (store_all HH.out hs hfl.out)
      have hcl := Lib.hid HH.out.len
      clear hs
      generalize storeW n s (markN c n s) rec = ws at *
      go_wp2_with (fail)
      go_at_call 16
      refine (HST.out _ (OwW.read HC1.out) (OwW.read HF1.out)).mono ?_
      rintro e v2 ⟨G, g, rfl, ho, hb⟩
      have HG2 := Lib.hid ho
      have HF2 := Lib.hid (own_kept HF1.out hb)
      have HC2 := Lib.hid (own_kept HC1.out hb)
      have HB2 := Lib.hid (HB1.out.trans (hb.mono HB1.out.size))
      clear ho hb HF1 HC1
      have hgc := own_cap HG2.out
      have hcl2 := hcl.out
      have hwl2 := hwl.out
      have hfl2 := hfl.out
      have HAP := Lib.hid (fun w hc hw => apply_all c ws B1 G p g w hc hw (by omega) (by omega) (by omega) hgc (by rw [hcl2]; exact hwi.out))
      clear hcl2 hwl2 hfl2
      generalize applyL c ws = c2 at *
      go_wp2_with (fail)
      go_at_call 17
      refine (HAP.out _ (OwW.read HC2.out) (OwWr.read HG2.out)).mono ?_
      rintro e v3 ⟨E, h, rfl, ho, hb⟩
      have HE3 := Lib.hid ho
      have HF3 := Lib.hid (own_kept HF2.out hb)
      have HB3 := Lib.hid (HB2.out.trans (hb.mono HB2.out.size))
      clear ho hb
      have hz1 := HB1.out.size
      have hz2 := HB2.out.size
      go_wp2_with (fail)
      go_roundg (recs.length - (k + 1))
      case measure => omega
      case rel => exact ⟨k + 1, c2, rec, E, h, F, f, by omega, by omega, by go_num, rfl, rfl, hall.out, own_less HE3.out hz2, own_less HF3.out HB.out.size, HB3.out⟩
    · by_cases h1 : k < recs.length
      all_goals
        have hki : (0 : Int) ≤ (k : Int) := by omega
        go_wp2_with (fail)
        go_ret3
        exact ⟨B1, p, C, r, c, old, rfl, HH.out, HO.out, HP.out, HB.out⟩
end Go.Proofs.Ythalkihhkkgkiaa.Cell
