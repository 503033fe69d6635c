/- The walk of OracleOnly. -/
import Derived.Test.YtjopjlnnmhokfaaAsk
namespace Go.Proofs.Ytjopjlnnmhokfaa.OracleOnly
open Go.RowKit Go.Proofs.Ytjopjlnnmhokfaa.Base Go.Proofs.Ytjopjlnnmhokfaa.Orc
set_option linter.unusedVariables false
set_option linter.unusedSimpArgs false
set_option maxRecDepth 20000

/-- The tag that OracleOnly remembers: the last one issued for p, or -1. -/
def tagO (ps : List Pr) (m r b : Int) : Int := if had ps m r b then tagL ps m r b else -1
theorem tagO_iss (ps : List Pr) (m r b d m' r' b' : Int) : tagO (issL ps m r b d) m' r' b' = if m = m' ∧ r = r' ∧ b = b' then issT ps m r b d else tagO ps m' r' b' := by
  by_cases h : m = m' ∧ r = r' ∧ b = b'
  · obtain ⟨rfl, rfl, rfl⟩ := h
    rw [if_pos ⟨rfl, rfl, rfl⟩, tagO, if_pos (had_iss ps m r b d), tag_iss]
  · rw [if_neg h]
    unfold issL
    split
    · rfl
    · have hs : same ⟨m, r, b, d⟩ m' r' b' = false := decide_eq_false h
      unfold tagO
      rw [had_snoc, tagL_snoc, hs]
      simp
theorem verO (ps : List Pr) (m r b d : Int) (hg : Orc.Good ps) (hd : 0 ≤ d) : verB ps m r b d = (tagO ps m r b == d) ∧ verB ps m r b (tagO ps m r b) = decide (0 ≤ tagO ps m r b) := by
  unfold verB tagO
  have h0 := tagL_le ps m r b hg.all
  cases had ps m r b
  · simp
    omega
  · simp
    omega
set_option maxHeartbeats 2000000
theorem walk (asks : List Aq) (L : Option Addr) (cl : Nat) (x : Aq) (cs : List Value) (w : World) (hl : RdE 4 Aq.enc w L asks) (hk : ∀ x ∈ asks, x.ok) (hx : cs = x.enc ∧ x.ok) :
    Calls Try.prog 14 #[.slice L asks.length cl, .agg cs.toArray] w fun e w' => e = .returned (.bool true) ∧ Below w.heap.size w w' := by
  obtain ⟨rfl, hx⟩ := hx
  have hmx := hl.1
  have HL := Lib.hid hl
  have HK := Lib.hid hk
  have HX := Lib.hid (fun w => asked_any x w hx)
  have HXI := Lib.hid (asked_in x)
  clear hl hk hx
  show Calls Try.prog 14 #[.slice L asks.length cl, .agg #[.int .i64 x.a, .int .i64 x.b, .int .i64 x.c, .int .i64 x.d]] w _
  go_enter Try.func14, Try.ntmps14
  obtain ⟨hpin, pd0, pd1⟩ := HXI.out
  have HPI := Lib.hid hpin
  clear hpin HXI
  generalize pk x.a 3 = pm at *
  generalize pk x.b 3 = pr at *
  generalize pk x.c 5 = pb at *
  generalize pk x.d 65536 = pd at *
  go_wp2_with (fail)
  go_at_call 22
  refine (HX.out _).mono ?_
  rintro e w0 ⟨rfl, hb⟩
  obtain ⟨bc, bf⟩ := bcell hb
  have hz0 := hb.size
  simp at hz0
  have HB0 := Lib.hid (below_then' (blw_alloc (blw_alloc (Below.refl _ _) _) _) hb)
  have lt00 : w.heap.size + 1 < w0.heap.size := by omega
  have i0 : w0.cell? ⟨w.heap.size + 1, 0, none⟩ = some (.slice none 0 0) := by rw [bc _ _ (by simp)]; go_simp
  have j0 : w0.frozen? ⟨w.heap.size + 1, 0, none⟩ = false := by rw [bf _ _ (by simp)]; go_simp
  clear hb bc bf
  go_wp2
  go_loopw [7, 8] (fun tv i wr => ∃ (k : Nat) (ps : List Pr) (A : Option Addr) (c : Nat), k ≤ asks.length ∧ k ≤ 100 ∧ i = .int .i64 k ∧ tv = .int .i64 (tagO ps pm pr pb) ∧ Kept ps k ∧ OwPr (w.heap.size + 1 + 1) wr A c ps ∧ Below w.heap.size w wr ∧ w0.heap.size < wr.heap.size ∧ wr.cell? ⟨w.heap.size + 1, 0, none⟩ = some (.slice A ps.length c) ∧ wr.frozen? ⟨w.heap.size + 1, 0, none⟩ = false ∧ wr.cell? ⟨w0.heap.size, 0, none⟩ = some (.int .i64 pm) ∧ wr.cell? ⟨w0.heap.size, 1, none⟩ = some (.int .i64 pr) ∧ wr.cell? ⟨w0.heap.size, 2, none⟩ = some (.int .i64 pb) ∧ wr.cell? ⟨w0.heap.size, 3, none⟩ = some (.int .i64 pd)) (fun _ i _ => asks.length - (intOf i).toNat)
  case atStart =>
    refine ⟨0, [], none, 0, by omega, by omega, rfl, rfl, Kept.nil, World.ownsRow_nil _ _ _ _, blw_alloc HB0.out _, by simp, ?_, ?_, ?_, ?_, ?_, ?_⟩
    all_goals go_simp
  case round =>
    obtain ⟨k, ps, A, c, hk1, hk2, rfl, rfl, hkept, hown, hbl, hsz, c0, f0, x0, x1, x2, x3⟩ := hrel
    have HKP := Lib.hid hkept
    have HO := Lib.hid hown
    have HB := Lib.hid hbl
    clear hkept hown hbl
    by_cases hlt : k < asks.length ∧ k < 100
    · obtain ⟨hl1, hl2⟩ := hlt
      obtain ⟨ad, rfl, a0, a1, a2, a3⟩ := at4 (HL.out.below HB.out) k hl1 _ _ _ _ rfl
      have HY := Lib.hid (fun w => asked_any asks[k] w (HK.out _ (List.getElem_mem hl1)))
      have hyi := asked_in asks[k]
      generalize asks[k] = y at *
      obtain ⟨hin, d0, d1⟩ := hyi
      have HIN := Lib.hid hin
      generalize pk y.a 3 = m at *
      generalize pk y.b 3 = r at *
      generalize pk y.c 5 = b at *
      generalize pk y.d 65536 = d at *
      clear hin
      have hki : (k : Int) < (asks.length : Int) := by omega
      have hk0 : (0 : Int) ≤ (k : Int) := by omega
      have hk3 : (k : Int) < 100 := by omega
      go_wp2_with (fail)
      go_at_call 22
      refine (HY.out _).mono ?_
      rintro e w1 ⟨rfl, hb⟩
      obtain ⟨bc, bf⟩ := bcell hb
      have hz1 := hb.size
      have HO1 := Lib.hid (HO.out.after hb)
      have HB1 := Lib.hid (below_then HB.out HB.out.size hb)
      have lt1 : w.heap.size + 1 < w1.heap.size := by omega
      have lt0 : w0.heap.size < w1.heap.size := by omega
      have e0 := (bc (w.heap.size + 1) 0 (by omega)).trans c0
      have g0 := (bf (w.heap.size + 1) 0 (by omega)).trans f0
      have y0 := (bc w0.heap.size 0 hsz).trans x0
      have y1 := (bc w0.heap.size 1 hsz).trans x1
      have y2 := (bc w0.heap.size 2 hsz).trans x2
      have y3 := (bc w0.heap.size 3 hsz).trans x3
      clear hb bc bf a0 a1 a2 a3 c0 f0 x0 x1 x2 x3
      go_wp2_with (fail)
      go_at_call 23
      refine (issue_ok ps m r b d A c _ (World.ownsRow.alloc HO1.out _ |> OwPr.read) HKP.out.ok HKP.out.good HO1.out.nil_of HIN.out.i.1 HIN.out.i.2.1 HIN.out.i.2.2 HIN.out.wok d0 d1 (.inr (by have := HKP.out.len; omega))).mono ?_
      rintro e w2 ⟨B, q, rfl, ho2, hb⟩
      obtain ⟨bc, bf⟩ := bcell hb
      have hz2 := hb.size
      simp at hz2
      have HK2 := Lib.hid (HKP.out.step (by omega) HIN.out.wok HIN.out.i.1 HIN.out.i.2.1 HIN.out.i.2.2 d0 d1)
      have HO2 := Lib.hid ho2
      have HB2 := Lib.hid (below_then HB1.out HB1.out.size ((blw_alloc (Below.refl _ _) _).trans (hb.mono (by simp))))
      have hti := tagO_iss ps m r b d pm pr pb
      have hver : verB (issL ps m r b d) m r b (issT ps m r b d) = true := by unfold verB; rw [had_iss, tag_iss]; simp
      have htl : 0 ≤ issT ps m r b d ∧ issT ps m r b d ≤ 65535 := by rw [← tag_iss]; exact tagL_le _ _ _ _ HK2.out.good.all
      generalize issL ps m r b d = ps2 at *
      generalize issT ps m r b d = tg at *
      have HV := Lib.hid (fun A' c' w' hr => verify_yes ps2 m r b tg A' c' w' hr HK2.out.ok HK2.out.good HIN.out.i.1 HIN.out.i.2.1 HIN.out.i.2.2)
      rw [hver] at HV
      generalize tagO ps pm pr pb = ot at *
      have HTI := Lib.hid hti
      have lt2 : w.heap.size + 1 < w2.heap.size := by omega
      have lt3 : w0.heap.size < w2.heap.size := by omega
      have lt4 : w1.heap.size < w2.heap.size := by omega
      have p0 : w2.cell? ⟨w.heap.size + 1, 0, none⟩ = some (.slice A ps.length c) := by rw [bc _ _ (by simp; omega)]; go_simp
      have h0 : w2.frozen? ⟨w.heap.size + 1, 0, none⟩ = false := by rw [bf _ _ (by simp; omega)]; go_simp
      have z0 : w2.cell? ⟨w0.heap.size, 0, none⟩ = some (.int .i64 pm) := by rw [bc _ _ (by simp; omega)]; go_simp
      have z1 : w2.cell? ⟨w0.heap.size, 1, none⟩ = some (.int .i64 pr) := by rw [bc _ _ (by simp; omega)]; go_simp
      have z2 : w2.cell? ⟨w0.heap.size, 2, none⟩ = some (.int .i64 pb) := by rw [bc _ _ (by simp; omega)]; go_simp
      have z3 : w2.cell? ⟨w0.heap.size, 3, none⟩ = some (.int .i64 pd) := by rw [bc _ _ (by simp; omega)]; go_simp
      have yg0 : w2.cell? ⟨w1.heap.size, 0, none⟩ = some (.int .i64 m) := by rw [bc _ _ (by simp <;> omega)]; go_simp
      have yg1 : w2.cell? ⟨w1.heap.size, 1, none⟩ = some (.int .i64 r) := by rw [bc _ _ (by simp <;> omega)]; go_simp
      have yg2 : w2.cell? ⟨w1.heap.size, 2, none⟩ = some (.int .i64 b) := by rw [bc _ _ (by simp <;> omega)]; go_simp
      have yg3 : w2.cell? ⟨w1.heap.size, 3, none⟩ = some (.int .i64 d) := by rw [bc _ _ (by simp <;> omega)]; go_simp
      clear ho2 hb bc bf e0 g0 y0 y1 y2 y3 hti hver htl
      go_wp2_with (fail)
      go_at_call 38
      refine (HV.out _ _ _ (World.ownsRow.alloc HO2.out _ |> OwPr.read)).mono ?_
      rintro e w3 ⟨rfl, hb⟩
      obtain ⟨bc, bf⟩ := bcell hb
      have hz3 := hb.size
      simp at hz3
      have HO3 := Lib.hid (OwPr.after (World.ownsRow.alloc HO2.out _) hb)
      have HB3 := Lib.hid (below_then HB2.out HB2.out.size ((blw_alloc (Below.refl _ _) _).trans (hb.mono (by simp))))
      have lt5 : w.heap.size + 1 < w3.heap.size := by omega
      have lt6 : w0.heap.size < w3.heap.size := by omega
      have lt7 : w1.heap.size < w3.heap.size := by omega
      have lt8 : w2.heap.size < w3.heap.size := by omega
      have q0 : w3.cell? ⟨w.heap.size + 1, 0, none⟩ = some (.slice A ps.length c) := by rw [bc _ _ (by simp; omega)]; go_simp
      have r0 : w3.frozen? ⟨w.heap.size + 1, 0, none⟩ = false := by rw [bf _ _ (by simp; omega)]; go_simp
      have s0 : w3.cell? ⟨w0.heap.size, 0, none⟩ = some (.int .i64 pm) := by rw [bc _ _ (by simp; omega)]; go_simp
      have s1 : w3.cell? ⟨w0.heap.size, 1, none⟩ = some (.int .i64 pr) := by rw [bc _ _ (by simp; omega)]; go_simp
      have s2 : w3.cell? ⟨w0.heap.size, 2, none⟩ = some (.int .i64 pb) := by rw [bc _ _ (by simp; omega)]; go_simp
      have s3 : w3.cell? ⟨w0.heap.size, 3, none⟩ = some (.int .i64 pd) := by rw [bc _ _ (by simp; omega)]; go_simp
      have s4 : w3.cell? ⟨w2.heap.size, 0, none⟩ = some (.slice B ps2.length q) := by rw [bc _ _ (by simp)]; go_simp
      have ug0 : w3.cell? ⟨w1.heap.size, 0, none⟩ = some (.int .i64 m) := by rw [bc _ _ (by simp <;> omega)]; go_simp
      have ug1 : w3.cell? ⟨w1.heap.size, 1, none⟩ = some (.int .i64 r) := by rw [bc _ _ (by simp <;> omega)]; go_simp
      have ug2 : w3.cell? ⟨w1.heap.size, 2, none⟩ = some (.int .i64 b) := by rw [bc _ _ (by simp <;> omega)]; go_simp
      have ug3 : w3.cell? ⟨w1.heap.size, 3, none⟩ = some (.int .i64 d) := by rw [bc _ _ (by simp <;> omega)]; go_simp
      clear hb bc bf p0 h0 z0 z1 z2 z3 yg0 yg1 yg2 yg3
      by_cases e1 : m = pm
      · subst e1
        by_cases e2 : r = pr
        · subst e2
          by_cases e3 : b = pb
          · subst e3
            rw [if_pos ⟨rfl, rfl, rfl⟩] at HTI
            go_wp2_with (fail)
            go_roundw
            case rel =>
              refine ⟨k + 1, ps2, B, q, by omega, by omega, by go_num, by rw [HTI.out], HK2.out, ?_, ?_, by simp; omega, ?_, ?_, ?_, ?_, ?_, ?_⟩
              · exact (ownsRow_setCell_below (base := w.heap.size + 1 + 1) (own_mono HO3.out (by simp; omega)) (a := ⟨w.heap.size + 1, 0, none⟩) (by simp) _)
              · exact (HB3.out.setCell (p := ⟨w.heap.size + 1, 0, none⟩) (by simp) _)
              all_goals go_simp
            case measure => simp [intOf]; omega
          · have e3' : (b == pb) = false := beq_eq_false_iff_ne.mpr e3
            rw [if_neg (by intro h; exact e3 h.2.2)] at HTI
            clear e3
            go_wp2_with (fail)
            go_roundw
            case rel =>
              refine ⟨k + 1, ps2, B, q, by omega, by omega, by go_num, by rw [HTI.out], HK2.out, ?_, ?_, by simp; omega, ?_, ?_, ?_, ?_, ?_, ?_⟩
              · exact (ownsRow_setCell_below (base := w.heap.size + 1 + 1) (own_mono HO3.out (by simp; omega)) (a := ⟨w.heap.size + 1, 0, none⟩) (by simp) _)
              · exact (HB3.out.setCell (p := ⟨w.heap.size + 1, 0, none⟩) (by simp) _)
              all_goals go_simp
            case measure => simp [intOf]; omega
        · have e2' : (r == pr) = false := beq_eq_false_iff_ne.mpr e2
          rw [if_neg (by intro h; exact e2 h.2.1)] at HTI
          clear e2
          go_wp2_with (fail)
          go_roundw
          case rel =>
            refine ⟨k + 1, ps2, B, q, by omega, by omega, by go_num, by rw [HTI.out], HK2.out, ?_, ?_, by simp; omega, ?_, ?_, ?_, ?_, ?_, ?_⟩
            · exact (ownsRow_setCell_below (base := w.heap.size + 1 + 1) (own_mono HO3.out (by simp; omega)) (a := ⟨w.heap.size + 1, 0, none⟩) (by simp) _)
            · exact (HB3.out.setCell (p := ⟨w.heap.size + 1, 0, none⟩) (by simp) _)
            all_goals go_simp
          case measure => simp [intOf]; omega
      · have e1' : (m == pm) = false := beq_eq_false_iff_ne.mpr e1
        rw [if_neg (by intro h; exact e1 h.1)] at HTI
        clear e1
        go_wp2_with (fail)
        go_roundw
        case rel =>
          refine ⟨k + 1, ps2, B, q, by omega, by omega, by go_num, by rw [HTI.out], HK2.out, ?_, ?_, by simp; omega, ?_, ?_, ?_, ?_, ?_, ?_⟩
          · exact (ownsRow_setCell_below (base := w.heap.size + 1 + 1) (own_mono HO3.out (by simp; omega)) (a := ⟨w.heap.size + 1, 0, none⟩) (by simp) _)
          · exact (HB3.out.setCell (p := ⟨w.heap.size + 1, 0, none⟩) (by simp) _)
          all_goals go_simp
        case measure => simp [intOf]; omega
    · have hvo := verO ps pm pr pb pd HKP.out.good pd0
      have HV1 := Lib.hid (fun A' c' w' hr => verify_yes ps pm pr pb pd A' c' w' hr HKP.out.ok HKP.out.good HPI.out.i.1 HPI.out.i.2.1 HPI.out.i.2.2)
      have HV2 := Lib.hid (fun A' c' w' hr => verify_yes ps pm pr pb (tagO ps pm pr pb) A' c' w' hr HKP.out.ok HKP.out.good HPI.out.i.1 HPI.out.i.2.1 HPI.out.i.2.2)
      rw [hvo.1] at HV1
      rw [hvo.2] at HV2
      clear hvo
      generalize tagO ps pm pr pb = ot at *
      by_cases hl1 : k < asks.length
      all_goals
        have hk0 : (0 : Int) ≤ (k : Int) := by omega
        go_wp2_with (fail)
        go_at_call 39
        refine (may_yes ps A c _ HO.out.read HKP.out.ok HKP.out.good).mono ?_
        rintro e w1 ⟨rfl, hb⟩
        obtain ⟨bc, bf⟩ := bcell hb
        have hz1 := hb.size
        have HO1 := Lib.hid (HO.out.after hb)
        have HB1 := Lib.hid (below_then HB.out HB.out.size hb)
        have e0 := (bc (w.heap.size + 1) 0 (by omega)).trans c0
        have y0 := (bc w0.heap.size 0 hsz).trans x0
        have y1 := (bc w0.heap.size 1 hsz).trans x1
        have y2 := (bc w0.heap.size 2 hsz).trans x2
        have y3 := (bc w0.heap.size 3 hsz).trans x3
        have lt1 : w.heap.size + 1 < w1.heap.size := by omega
        have lt2 : w0.heap.size < w1.heap.size := by omega
        clear hb bc bf c0 f0 x0 x1 x2 x3
        go_wp2_with (fail)
        go_at_call 38
        refine (HV1.out A c _ HO1.out.read).mono ?_
        rintro e w2 ⟨rfl, hb⟩
        obtain ⟨bc, bf⟩ := bcell hb
        have hz2 := hb.size
        have HO2 := Lib.hid (HO1.out.after hb)
        have HB2 := Lib.hid (below_then HB1.out HB1.out.size hb)
        have p0 := (bc (w.heap.size + 1) 0 (by omega)).trans e0
        have z0 := (bc w0.heap.size 0 (by omega)).trans y0
        have z1 := (bc w0.heap.size 1 (by omega)).trans y1
        have z2 := (bc w0.heap.size 2 (by omega)).trans y2
        have z3 := (bc w0.heap.size 3 (by omega)).trans y3
        have lt3 : w.heap.size + 1 < w2.heap.size := by omega
        have lt4 : w0.heap.size < w2.heap.size := by omega
        clear hb bc bf e0 y0 y1 y2 y3
        go_wp2_with (fail)
        go_at_call 38
        refine (HV2.out A c _ HO2.out.read).mono ?_
        rintro e w3 ⟨rfl, hb⟩
        obtain ⟨bc, bf⟩ := bcell hb
        have HB3 := Lib.hid (below_then HB2.out HB2.out.size hb)
        have hz3 := hb.size
        have s3 := (bc w0.heap.size 3 (by omega)).trans z3
        clear hb bc bf p0 z0 z1 z2 z3
        go_wp2
        go_ret
        refine ⟨?_, HB3.out⟩
        exact ret_bool (by simp)
end Go.Proofs.Ytjopjlnnmhokfaa.OracleOnly
