/- The contract of the laws' helper tape. -/
import Derived.Test.YtjlihpbnhojdgaaDisk4
namespace Go.Proofs.Ytjlihpbnhojdgaa.Cell
open Go.RowKit Go.Proofs.Ytjlihpbnhojdgaa.Base
set_option linter.unusedVariables false
set_option linter.unusedSimpArgs false
set_option maxRecDepth 20000
theorem some_len (r : List UInt32) (m : Nat) (hm : 1 ≤ m) : 1 ≤ (someL r m).length ∧ (someL r m).length ≤ m := by
  unfold someL
  split
  · simp; omega
  · rename_i h
    have := List.length_pos_iff.2 h
    simp at this ⊢
    omega
/-- The records that a tape takes of raw ones. -/
def tapeL (recs : List (List UInt32)) (k : Nat) : List (List UInt32) := (recs.take k).map fun r => someL r 20
theorem tapeL_snoc (recs : List (List UInt32)) (k : Nat) (h : k < recs.length) : tapeL recs (k + 1) = tapeL recs k ++ [someL recs[k] 20] := by
  unfold tapeL
  rw [List.take_succ_eq_append_getElem h, List.map_append]
  rfl
theorem tapeL_len (recs : List (List UInt32)) (k : Nat) (h : k ≤ recs.length) : (tapeL recs k).length = k := by
  unfold tapeL
  simp
  omega
theorem tapeL_in (recs : List (List UInt32)) (k : Nat) : ∀ r ∈ tapeL recs k, 1 ≤ r.length ∧ r.length ≤ 20 := by
  intro r hr
  obtain ⟨x, _, rfl⟩ := List.mem_map.1 hr
  exact some_len x 20 (by omega)
theorem enc_le (l : List (List UInt32)) (h : ∀ r ∈ l, r.length ≤ 20) : (encL l).length ≤ 21 * l.length := by
  induction l with
  | nil => simp [encL]
  | cons x l ih =>
    have h1 := ih (fun r hr => h r (by simp [hr]))
    have h2 := h x (by simp)
    simp only [encL, List.flatMap_cons, List.length_append, List.length_cons] at h1 ⊢
    omega
theorem enc_pre (l : List (List UInt32)) (k : Nat) (hk : k < l.length) : (encL (l.take k)).length + 1 + l[k].length ≤ (encL l).length := by
  obtain ⟨t, ht⟩ := encL_pre l (k + 1)
  have := encL_take l k hk
  have h2 : (encL l).length = (encL (l.take (k + 1))).length + t.length := by rw [ht]; simp
  omega
set_option maxHeartbeats 1000000 in
theorem tape_zero2 (A : Option Addr) (q0 : Nat) (w : World) :
    Calls Try.prog 31 #[.slice A 0 q0, .int .i64 0] w fun e w' => e = .returned (.tuple #[.slice none 0 0, .slice none 0 0, .bool false]) ∧ w = w' := by
  go_enter Try.func31, Try.ntmps31
  go_wp2_with (fail)
  go_loopg [7, 8, 9] 0 (fun m b s i wr => i = .int .i64 0 ∧ s = .int .i64 0 ∧ b = .slice none 0 0 ∧ w = wr)
  case atStart => exact ⟨rfl, rfl, rfl, rfl⟩
  case round =>
    obtain ⟨rfl, rfl, rfl, rfl⟩ := hrel
    go_wp2_with (fail)
    go_at_call 54
    refine (blank_zero _).mono ?_
    rintro e w' ⟨rfl, rfl⟩
    go_wp2
    go_ret3
    exact ⟨rfl, rfl⟩
set_option maxHeartbeats 4000000 in
theorem tape_any (recs : List (List UInt32)) (mo : Nat) (A : Option Addr) (q0 : Nat) (w : World) (hr : RdS w A recs) (h0 : 1 ≤ recs.length + mo) (h1 : mo ≤ 100) :
    Calls Try.prog 31 #[.slice A recs.length q0, .int .i64 (mo : Int)] w fun e w' => ∃ (k : Nat) (B : Option Addr) (p : Nat) (c : List UInt32) (D : Option Addr) (r : Nat), k = min recs.length 12 ∧ e = .returned (.tuple #[.slice B c.length p, .slice D (tapeL recs k).length r, .bool true]) ∧ c.length = (encL (tapeL recs k)).length + mo ∧
      1 ≤ c.length ∧ c.length ≤ 2048 ∧ c.length ≤ p ∧ Tape c (tapeL recs k) ∧ RdE 1 encW w' B c ∧ OwS w.heap.size w' (.slice D (tapeL recs k).length r) (tapeL recs k) ∧ Below w.heap.size w w' := by
  have hmx := hr.1
  have HR := Lib.hid hr
  clear hr
  go_enter Try.func31, Try.ntmps31
  go_wp2_with (fail)
  go_loopg [7, 8, 9] recs.length (fun m b s i wr => ∃ (k sz : Nat), m + k = recs.length ∧ k ≤ 12 ∧ i = .int .i64 k ∧ sz = (encL (tapeL recs k)).length + mo ∧ s = .int .i64 (sz : Int) ∧ OwS w.heap.size wr b (tapeL recs k) ∧ Below w.heap.size w wr)
  case atStart => exact ⟨0, mo, by omega, by omega, rfl, by simp [tapeL, encL], rfl, OwS.nil _ _, Below.refl _ _⟩
  case round =>
    obtain ⟨k, sz, hk, hk12, rfl, hsz, rfl, hos, hbl⟩ := hrel
    have HO := Lib.hid hos
    have HB := Lib.hid hbl
    have HSZ := Lib.hid hsz
    have hin := tapeL_in recs k
    have hele := enc_le _ (fun r hr => (hin r hr).2)
    rw [tapeL_len recs k (by omega)] at hele
    have hszb : sz ≤ 352 := by omega
    clear hos hbl hsz hele hin
    by_cases hlt : k < recs.length ∧ k < 12
    · obtain ⟨h2, h3⟩ := hlt
      obtain ⟨ad, rfl, X, x0, hcx, hrx⟩ := (HR.out.below HB.out).at k h2
      have hsn := Lib.hid (tapeL_snoc recs k h2)
      have HRX := Lib.hid hrx
      clear hrx
      obtain ⟨x, hx⟩ : ∃ x, x = recs[k] := ⟨_, rfl⟩
      rw [← hx] at HRX hcx hsn
      clear hx
      have hki : (k : Int) < (recs.length : Int) := by omega
      have hk0 : (0 : Int) ≤ (k : Int) := by omega
      have hk1 : (k : Int) < 12 := by omega
      have HS := Lib.hid (some_few x 20 20 X x0 wr HRX.out rfl (by omega) (by omega))
      obtain ⟨r0, r1⟩ := some_len x 20 (by omega)
      have hlk := Lib.hid (tapeL_len recs k (by omega))
      generalize someL x 20 = y at *
      generalize tapeL recs k = lk at *
      go_wp2_with (fail)
      go_at_call 20
      refine HS.out.mono ?_
      rintro e w1 ⟨F, f, rfl, ho, hb⟩
      obtain ⟨g, rfl, hg0, hg1⟩ := own_addr ho (by omega)
      have HY := Lib.hid (OwW.read ho)
      have HO1 := HO.out.after hb
      obtain ⟨vs, hown, hvl, hvx⟩ := HO1
      have HOW := Lib.hid hown
      have HVX := Lib.hid hvx
      have HVL := Lib.hid hvl
      have hbn : ∀ z, u7.ownBlock = some z → z < wr.heap.size := by
        obtain ⟨vs0, hown0, _⟩ := HO.out
        intro z hz
        exact (hown0.lt z hz).2
      have HBN := Lib.hid hbn
      have HB1 := Lib.hid (HB.out.trans (hb.mono HB.out.size))
      have hlb : lk.length ≤ 12 := by rw [hlk.out]; exact hk12
      clear ho hb hown hvx hvl hcx hbn HO
      go_wp2_with (at_builtin; refine app1 (w0 := w) w.heap.size rfl (.tmp 32) (.tmp 34) 66 36 (.slice none 0 0) 1 24 rfl Try.underlying66 info_sw rfl (by decide) (by decide) _ _ _ [.slice (some ⟨g, 0, none⟩) y.length f] rfl rfl rfl ?c1 HOW.out HB1.out HB1.out.size ?c2 ?_; (case c1 => intro u hu; simp at hu; subst hu; rfl); (case c2 => omega); intro v1 w2 ho1 hb1 hg1' hat1; have HO2 := Lib.hid ho1; have HB2 := Lib.hid hb1; have HG2 := Lib.hid hg1'; have HA2 := Lib.hid hat1; clear ho1 hb1 hg1' hat1)
      go_roundg (recs.length - (k + 1))
      case measure => omega
      case rel =>
        refine ⟨k + 1, sz + (y.length + 1), by omega, by omega, by go_num, ?_, by go_num, ?_, HB2.out⟩
        · rw [hsn.out, encL_snoc, HSZ.out]
          simp
          omega
        · rw [hsn.out]
          have hs12 := HG2.out.size
          exact OwS.snoc HO2.out HVL.out HVX.out HG2.out HA2.out HY.out ⟨by have := HB.out.size; omega, hg1⟩ (fun h => by have := HBN.out g h.symm; omega) hs12
    · have hkm : k = min recs.length 12 := by omega
      have HKM := Lib.hid hkm
      have hin := tapeL_in recs k
      have hlk := tapeL_len recs k (by omega)
      have hs1 : 1 ≤ sz := by
        have := HSZ.out
        by_cases hm : 1 ≤ mo
        · omega
        · have hk1 : 0 < k := by omega
          have := enc_pre (tapeL recs k) 0 (by omega)
          omega
      have HIN := Lib.hid hin
      have hlb : (tapeL recs k).length ≤ 12 := by omega
      clear hin hkm hlk
      generalize hL : tapeL recs k = L at *
      have HLK := Lib.hid hL
      clear hL
      have HBK := Lib.hid (fun w => blank_any sz w hs1 (by omega))
      have hrl : (List.replicate sz (0 : UInt32)).length = sz := by simp
      have htz := Lib.hid (tape_zero sz)
      have HRL := Lib.hid hrl
      have q1 : ((List.replicate sz (0 : UInt32)).length != sz) = false := by rw [hrl]; simp
      have q2 : (((List.replicate sz (0 : UInt32)).length : Int) != (sz : Int)) = false := by rw [hrl]; simp
      clear hrl
      generalize List.replicate sz (0 : UInt32) = z at *
      by_cases h2 : k < recs.length
      all_goals
        have hk0 : (0 : Int) ≤ (k : Int) := by omega
        go_wp2_with (fail)
        go_at_call 54
        refine (HBK.out _).mono ?_
        rintro e w1 ⟨B, p, rfl, ho, hb⟩
        have hcap := own_cap ho
        have RC := Lib.hid (OwW.read ho)
        have HO1 := Lib.hid (HO.out.after hb)
        have HB1 := Lib.hid (HB.out.trans (hb.mono HB.out.size))
        obtain ⟨D, r, hD, _⟩ := HO1.out.read
        subst hD
        clear ho hb HO
        go_wp2_with (fail)
        obtain ⟨w1, rfl⟩ : ∃ wo : World, wo = w1 := ⟨_, rfl⟩
        go_loopg [11, 13] L.length (fun m b i wr => ∃ (j : Nat) (c : List UInt32) (B : Option Addr) (p : Nat), m + j = L.length ∧ i = .int .i64 j ∧ b = .slice B c.length p ∧ c.length = sz ∧ c.length ≤ p ∧ Tape c (L.take j) ∧ RdE 1 encW wr B c ∧ OwS w.heap.size wr (.slice D L.length r) L ∧ Below w.heap.size w wr)
        case atStart => exact ⟨0, z, B, p, by omega, rfl, rfl, HRL.out, hcap, htz.out, RC.out, HO1.out, HB1.out⟩
        case round =>
          clear RC HO1 HB1 hcap HRL htz q1 q2 HBK HB
          obtain ⟨j, c, B, p, hj, rfl, rfl, hcl, hcp, ht, rc0, ho0, hb0⟩ := hrel
          have HB := Lib.hid hb0
          have HO := Lib.hid ho0
          have RC := Lib.hid rc0
          have HT := Lib.hid ht
          have HCL := Lib.hid hcl
          have HCP := Lib.hid hcp
          clear hb0 ho0 rc0 ht
          by_cases hjl : j < L.length
          · obtain ⟨_, _, he, hrs⟩ := HO.out.read
            cases he
            obtain ⟨ad, rfl, X, x0, hcx, hrx⟩ := hrs.at j hjl
            have HRX := Lib.hid hrx
            obtain ⟨m0, m1⟩ := HIN.out _ (List.getElem_mem hjl)
            have hpre := enc_pre L j hjl
            have hts := Lib.hid (List.take_succ_eq_append_getElem hjl)
            obtain ⟨x, hx⟩ : ∃ x, x = L[j] := ⟨_, rfl⟩
            rw [← hx] at HRX hcx hts m0 m1 hpre
            have HP := Lib.hid (put_any c x (L.take j) B X p x0 wr RC.out HRX.out HT.out (by omega) (by omega) hcp m0 (by omega) (by have := HSZ.out; omega))
            have hji : (j : Int) < (L.length : Int) := by omega
            have hj0 : (0 : Int) ≤ (j : Int) := by omega
            clear hx hrx hrs hpre hcl hcp
            go_wp2_with (fail)
            go_at_call 38
            refine HP.out.mono ?_
            rintro e w2 ⟨E, h, c2, rfl, hl2, ht2, ho2, hb2⟩
            have HB2 := Lib.hid (HB.out.trans (hb2.mono HB.out.size))
            have HO2 := Lib.hid (HO.out.after hb2)
            have RC2 := Lib.hid (OwW.read ho2)
            have HL2 := Lib.hid hl2
            have HT2 := Lib.hid ht2
            have HC2 := Lib.hid (own_cap ho2)
            clear hl2 ht2 ho2 hb2 hcx
            go_wp2_with (fail)
            go_roundg (L.length - (j + 1))
            case measure => omega
            case rel => exact ⟨j + 1, c2, E, h, by omega, by go_num, rfl, by rw [HL2.out]; exact HCL.out, HC2.out, by rw [hts.out]; exact HT2.out, RC2.out, HO2.out, HB2.out⟩
          · obtain rfl : j = L.length := by omega
            have HT2 := HT.out
            rw [List.take_length] at HT2
            have HT3 := Lib.hid HT2
            clear HT2 hcl
            go_wp2
            go_ret3
            have hcl2 := HCL.out
            have hlk := HLK.out
            subst hlk
            exact ⟨k, B, p, c, D, r, HKM.out, rfl, by rw [hcl2]; exact HSZ.out, by omega, by omega, hcp, HT3.out, RC.out, HO.out, HB.out⟩
end Go.Proofs.Ytjlihpbnhojdgaa.Cell
