/- The walk of OracleAgain. -/
import Derived.Test.YtjopjlnnmhokfaaAsk
namespace Go.Proofs.Ytjopjlnnmhokfaa.OracleAgain
open Go.RowKit Go.Proofs.Ytjopjlnnmhokfaa.Base Go.Proofs.Ytjopjlnnmhokfaa.Orc
set_option linter.unusedVariables false
set_option linter.unusedSimpArgs false
set_option maxRecDepth 20000
set_option maxHeartbeats 2000000
theorem walk (asks : List Aq) (L : Option Addr) (cl : Nat) (x : Aq) (cs : List Value) (dr : Int) (w : World) (hl : RdE 4 Aq.enc w L asks) (hk : ∀ x ∈ asks, x.ok) (hx : cs = x.enc ∧ x.ok) (wd : (Lit.int .i64 dr).wf = true) :
    Calls Try.prog 6 #[.slice L asks.length cl, .agg cs.toArray, .int .i64 dr] w fun e w' => e = .returned (.bool true) ∧ Below w.heap.size w w' := by
  obtain ⟨rfl, hx⟩ := hx
  obtain ⟨dr0, dr1⟩ := i64_bound wd
  clear wd
  have hmx := hl.1
  have HL := Lib.hid hl
  have HK := Lib.hid hk
  have HX := Lib.hid (fun w => asked_any x w hx)
  have HXI := Lib.hid (asked_in x)
  have HPD := Lib.hid (fun w => picked_any dr 65536 w dr0 dr1 (by omega))
  have hpd := pk_bound dr 65536 (by omega)
  obtain ⟨pd, hpe⟩ : ∃ t, t = pk dr 65536 := ⟨_, rfl⟩
  rw [← hpe] at HPD hpd
  clear hl hk hx hpe dr0 dr1
  obtain ⟨pd0, pd1⟩ := hpd
  show Calls Try.prog 6 #[.slice L asks.length cl, .agg #[.int .i64 x.a, .int .i64 x.b, .int .i64 x.c, .int .i64 x.d], .int .i64 dr] w _
  go_enter Try.func6, Try.ntmps6
  go_wp2
  go_loopw [8] (fun i wr => ∃ (k : Nat) (ps : List Pr) (A : Option Addr) (c : Nat), k ≤ asks.length ∧ k ≤ 100 ∧ i = .int .i64 k ∧ Kept ps k ∧ OwPr (w.heap.size + 1 + 1) wr A c ps ∧ Below w.heap.size w wr ∧ w.heap.size + 1 < wr.heap.size ∧ wr.cell? ⟨w.heap.size + 1, 0, none⟩ = some (.slice A ps.length c) ∧ wr.frozen? ⟨w.heap.size + 1, 0, none⟩ = false ∧ wr.cell? ⟨w.heap.size, 0, none⟩ = some (.int .i64 x.a) ∧ wr.cell? ⟨w.heap.size, 1, none⟩ = some (.int .i64 x.b) ∧ wr.cell? ⟨w.heap.size, 2, none⟩ = some (.int .i64 x.c) ∧ wr.cell? ⟨w.heap.size, 3, none⟩ = some (.int .i64 x.d)) (fun i _ => asks.length - (intOf i).toNat)
  case atStart =>
    refine ⟨0, [], none, 0, by omega, by omega, rfl, Kept.nil, World.ownsRow_nil _ _ _ _, blw_alloc (blw_alloc (Below.refl _ _) _) _, by simp, ?_, ?_, ?_, ?_, ?_, ?_⟩
    all_goals go_simp
  case round =>
    obtain ⟨k, ps, A, c, hk1, hk2, rfl, hkept, hown, hbl, hsz, c0, f0, x0, x1, x2, x3⟩ := hrel
    have HKP := Lib.hid hkept
    have HO := Lib.hid hown
    have HB := Lib.hid hbl
    clear hkept hown hbl
    by_cases hlt : k < asks.length ∧ k < 100
    · obtain ⟨hl1, hl2⟩ := hlt
      obtain ⟨ad, rfl, a0, a1, a2, a3⟩ := at4 (HL.out.below HB.out) k hl1 _ _ _ _ rfl
      have HY := Lib.hid (fun w => asked_any asks[k] w (HK.out _ (List.getElem_mem hl1)))
      have hyi := asked_in asks[k]
      generalize asks[k] = y at *
      obtain ⟨hin, d0, d1⟩ := hyi
      have HIN := Lib.hid hin
      generalize pk y.a 3 = m at *
      generalize pk y.b 3 = r at *
      generalize pk y.c 5 = b at *
      generalize pk y.d 65536 = d at *
      clear hin
      have hki : (k : Int) < (asks.length : Int) := by omega
      have hk0 : (0 : Int) ≤ (k : Int) := by omega
      have hk3 : (k : Int) < 100 := by omega
      go_wp2_with (fail)
      go_at_call 22
      refine (HY.out _).mono ?_
      rintro e w1 ⟨rfl, hb⟩
      obtain ⟨bc, bf⟩ := bcell hb
      have hz1 := hb.size
      have HO1 := Lib.hid (HO.out.after hb)
      have HB1 := Lib.hid (below_then HB.out HB.out.size hb)
      have lt0 : w.heap.size < w1.heap.size := by omega
      have lt1 : w.heap.size + 1 < w1.heap.size := by omega
      have e0 := (bc (w.heap.size + 1) 0 hsz).trans c0
      have g0 := (bf (w.heap.size + 1) 0 hsz).trans f0
      have y0 := (bc w.heap.size 0 (by omega)).trans x0
      have y1 := (bc w.heap.size 1 (by omega)).trans x1
      have y2 := (bc w.heap.size 2 (by omega)).trans x2
      have y3 := (bc w.heap.size 3 (by omega)).trans x3
      clear hb bc bf a0 a1 a2 a3 c0 f0 x0 x1 x2 x3
      go_wp2_with (fail)
      go_at_call 23
      refine (issue_ok ps m r b d A c _ (World.ownsRow.alloc HO1.out _ |> OwPr.read) HKP.out.ok HKP.out.good HO1.out.nil_of HIN.out.i.1 HIN.out.i.2.1 HIN.out.i.2.2 HIN.out.wok d0 d1 (.inr (by have := HKP.out.len; omega))).mono ?_
      rintro e w2 ⟨B, q, rfl, ho2, hb⟩
      obtain ⟨bc, bf⟩ := bcell hb
      have hz2 := hb.size
      simp at hz2
      have HK2 := Lib.hid (HKP.out.step (by omega) HIN.out.wok HIN.out.i.1 HIN.out.i.2.1 HIN.out.i.2.2 d0 d1)
      have HO2 := Lib.hid ho2
      have HB2 := Lib.hid (below_then HB1.out HB1.out.size ((blw_alloc (Below.refl _ _) _).trans (hb.mono (by simp))))
      generalize issL ps m r b d = ps2 at *
      generalize issT ps m r b d = tg at *
      have lt2 : w.heap.size < w2.heap.size := by omega
      have lt3 : w.heap.size + 1 < w2.heap.size := by omega
      have p0 : w2.cell? ⟨w.heap.size + 1, 0, none⟩ = some (.slice A ps.length c) := by rw [bc _ _ (by simp; omega)]; go_simp
      have h0 : w2.frozen? ⟨w.heap.size + 1, 0, none⟩ = false := by rw [bf _ _ (by simp; omega)]; go_simp
      have z0 : w2.cell? ⟨w.heap.size, 0, none⟩ = some (.int .i64 x.a) := by rw [bc _ _ (by simp; omega)]; go_simp
      have z1 : w2.cell? ⟨w.heap.size, 1, none⟩ = some (.int .i64 x.b) := by rw [bc _ _ (by simp; omega)]; go_simp
      have z2 : w2.cell? ⟨w.heap.size, 2, none⟩ = some (.int .i64 x.c) := by rw [bc _ _ (by simp; omega)]; go_simp
      have z3 : w2.cell? ⟨w.heap.size, 3, none⟩ = some (.int .i64 x.d) := by rw [bc _ _ (by simp; omega)]; go_simp
      clear ho2 hb bc bf e0 g0 y0 y1 y2 y3
      go_wp2_with (fail)
      go_roundw
      case rel =>
        refine ⟨k + 1, ps2, B, q, by omega, by omega, by go_num, HK2.out, ?_, ?_, by simp; omega, ?_, ?_, ?_, ?_, ?_, ?_⟩
        · exact (ownsRow_setCell_below (base := w.heap.size + 1 + 1) (own_mono HO2.out (by simp; omega)) (a := ⟨w.heap.size + 1, 0, none⟩) (by simp) _).alloc _
        · exact blw_alloc (HB2.out.setCell (p := ⟨w.heap.size + 1, 0, none⟩) (by simp) _) _
        all_goals go_simp
      case measure => simp [intOf]; omega
    · obtain ⟨hin, d0, d1⟩ := HXI.out
      have HIN := Lib.hid hin
      have hagain := fun d' => iss_again ps (pk x.a 3) (pk x.b 3) (pk x.c 5) (pk x.d 65536) d'
      have hlen := iss_len ps (pk x.a 3) (pk x.b 3) (pk x.c 5) (pk x.d 65536)
      have HK2 := Lib.hid (HKP.out.step (by omega) HIN.out.wok HIN.out.i.1 HIN.out.i.2.1 HIN.out.i.2.2 d0 d1)
      have HI1 := Lib.hid (fun w' hr hn => issue_ok ps (pk x.a 3) (pk x.b 3) (pk x.c 5) (pk x.d 65536) A c w' hr HKP.out.ok HKP.out.good hn HIN.out.i.1 HIN.out.i.2.1 HIN.out.i.2.2 HIN.out.wok d0 d1 (.inr (by have := HKP.out.len; omega)))
      have HI2 := Lib.hid (fun A' c' w' hr hn => issue_ok (issL ps (pk x.a 3) (pk x.b 3) (pk x.c 5) (pk x.d 65536)) (pk x.a 3) (pk x.b 3) (pk x.c 5) pd A' c' w' hr HK2.out.ok HK2.out.good hn HIN.out.i.1 HIN.out.i.2.1 HIN.out.i.2.2 HIN.out.wok pd0 (by omega) (.inl (had_iss _ _ _ _ _)))
      have h1 := (hagain pd).1
      have h2 := (hagain pd).2
      rw [h1, h2] at HI2
      clear h1 h2 hagain hin HXI HIN
      generalize pk x.a 3 = m at *
      generalize pk x.b 3 = r at *
      generalize pk x.c 5 = b at *
      generalize pk x.d 65536 = d at *
      generalize issL ps m r b d = ps2 at *
      generalize issT ps m r b d = tg at *
      obtain ⟨hlen1, hlen2⟩ := hlen
      have hb500 : ps.length ≤ 100 := by have := HKP.out.len; omega
      by_cases hl1 : k < asks.length
      all_goals
        have hk0 : (0 : Int) ≤ (k : Int) := by omega
        go_wp2_with (fail)
        go_at_call 22
        refine (HX.out _).mono ?_
        rintro e w1 ⟨rfl, hb⟩
        obtain ⟨bc, bf⟩ := bcell hb
        have hz1 := hb.size
        have HO1 := Lib.hid (HO.out.after hb)
        have HB1 := Lib.hid (below_then HB.out HB.out.size hb)
        have lt0 : w.heap.size < w1.heap.size := by omega
        have lt1 : w.heap.size + 1 < w1.heap.size := by omega
        have e0 := (bc (w.heap.size + 1) 0 hsz).trans c0
        clear hb bc bf c0 f0 x0 x1 x2 x3
        go_wp2_with (fail)
        go_at_call 23
        refine (HI1.out _ (World.ownsRow.alloc HO1.out _ |> OwPr.read) HO1.out.nil_of).mono ?_
        rintro e w2 ⟨B, q, rfl, ho2, hb⟩
        obtain ⟨bc, bf⟩ := bcell hb
        have hz2 := hb.size
        simp at hz2
        have HO2 := Lib.hid ho2
        have HB2 := Lib.hid (below_then HB1.out HB1.out.size ((blw_alloc (Below.refl _ _) _).trans (hb.mono (by simp))))
        have lt2 : w.heap.size < w2.heap.size := by omega
        have lt3 : w.heap.size + 1 < w2.heap.size := by omega
        have lt4 : w1.heap.size < w2.heap.size := by omega
        have p0 : w2.cell? ⟨w.heap.size + 1, 0, none⟩ = some (.slice A ps.length c) := by rw [bc _ _ (by simp; omega)]; go_simp
        have yg0 : w2.cell? ⟨w1.heap.size, 0, none⟩ = some (.int .i64 m) := by rw [bc _ _ (by simp <;> omega)]; go_simp
        have yg1 : w2.cell? ⟨w1.heap.size, 1, none⟩ = some (.int .i64 r) := by rw [bc _ _ (by simp <;> omega)]; go_simp
        have yg2 : w2.cell? ⟨w1.heap.size, 2, none⟩ = some (.int .i64 b) := by rw [bc _ _ (by simp <;> omega)]; go_simp
        have yg3 : w2.cell? ⟨w1.heap.size, 3, none⟩ = some (.int .i64 d) := by rw [bc _ _ (by simp <;> omega)]; go_simp
        clear ho2 hb bc bf e0
        go_wp2_with (fail)
        have HA1 := Lib.hid (fun w' h => (World.ownsRow.alloc HO2.out (.cells #[.slice B ps2.length q] 49) |> OwPr.read).below (w1 := w') h)
        go_region_held3 (fun w' => w'.cell? ⟨w2.heap.size, 0, none⟩ = some (.slice B ps2.length q) ∧ w'.cell? ⟨w1.heap.size, 0, none⟩ = some (.int .i64 m) ∧ w'.cell? ⟨w1.heap.size, 1, none⟩ = some (.int .i64 r) ∧ w'.cell? ⟨w1.heap.size, 2, none⟩ = some (.int .i64 b) ∧ w'.cell? ⟨w.heap.size + 1, 0, none⟩ = some (.slice A ps.length c)) (go_keep) (first | (go_at_call 15; refine (HPD.out _).mono ?_; rintro e w' ⟨rfl, rfl⟩) | (go_at_call 23; refine (HI2.out _ _ _ (HA1.out _ ((Below.refl _ _).alloc (Nat.le_refl _) _).drew) HO2.out.nil_of).mono ?_; rintro e w3 ⟨B3, q3, rfl, ho3, hb⟩; obtain ⟨bc, bf⟩ := bcell hb; have hz3 := hb.size; simp at hz3; have s0 : w3.cell? ⟨w2.heap.size, 0, none⟩ = some (.slice B ps2.length q) := (by rw [bc _ _ (by simp <;> omega)]; go_simp); have s1 : w3.cell? ⟨w1.heap.size, 0, none⟩ = some (.int .i64 m) := (by rw [bc _ _ (by simp <;> omega)]; go_simp); have s2 : w3.cell? ⟨w1.heap.size, 1, none⟩ = some (.int .i64 r) := (by rw [bc _ _ (by simp <;> omega)]; go_simp); have s3 : w3.cell? ⟨w1.heap.size, 2, none⟩ = some (.int .i64 b) := (by rw [bc _ _ (by simp <;> omega)]; go_simp); have s4 : w3.cell? ⟨w.heap.size + 1, 0, none⟩ = some (.slice A ps.length c) := (by rw [bc _ _ (by simp <;> omega)]; go_simp); have s5 : w3.cell? ⟨w2.heap.size + 1, 0, none⟩ = some (.slice none 0 0) := (by rw [bc _ _ (by simp <;> omega)]; go_simp); have s6 : w3.frozen? ⟨w2.heap.size + 1, 0, none⟩ = false := (by rw [bf _ _ (by simp <;> omega)]; go_simp); have lt8 : w2.heap.size + 1 < w3.heap.size := (by omega); have n1 : w1.heap.size ≠ w2.heap.size + 1 := (by omega); have n2 : w2.heap.size + 1 ≠ w1.heap.size := (by omega); have n3 : w.heap.size ≠ w2.heap.size := (by omega); have n4 : w2.heap.size ≠ w.heap.size := (by omega); have lt5 : w2.heap.size < w3.heap.size := (by omega); have lt6 : w1.heap.size < w3.heap.size := (by omega); have lt7 : w.heap.size + 1 < w3.heap.size := (by omega); have HB3 := Lib.hid hb; clear ho3 bc bf hb) | (go_at_call 23; refine (HI2.out _ _ _ (HA1.out _ (Below.refl _ _).drew) HO2.out.nil_of).mono ?_; rintro e w3 ⟨B3, q3, rfl, ho3, hb⟩; obtain ⟨bc, bf⟩ := bcell hb; have hz3 := hb.size; simp at hz3; have s0 : w3.cell? ⟨w2.heap.size, 0, none⟩ = some (.slice B ps2.length q) := (by rw [bc _ _ (by simp <;> omega)]; go_simp); have s1 : w3.cell? ⟨w1.heap.size, 0, none⟩ = some (.int .i64 m) := (by rw [bc _ _ (by simp <;> omega)]; go_simp); have s2 : w3.cell? ⟨w1.heap.size, 1, none⟩ = some (.int .i64 r) := (by rw [bc _ _ (by simp <;> omega)]; go_simp); have s3 : w3.cell? ⟨w1.heap.size, 2, none⟩ = some (.int .i64 b) := (by rw [bc _ _ (by simp <;> omega)]; go_simp); have s4 : w3.cell? ⟨w.heap.size + 1, 0, none⟩ = some (.slice A ps.length c) := (by rw [bc _ _ (by simp <;> omega)]; go_simp); have lt5 : w2.heap.size < w3.heap.size := (by omega); have lt6 : w1.heap.size < w3.heap.size := (by omega); have lt7 : w.heap.size + 1 < w3.heap.size := (by omega); have HB3 := Lib.hid hb; clear ho3 bc bf hb))
        all_goals
          have l1 : (0 : Int) < (ps2.length : Int) := by omega
          have l2 : (ps2.length : Int) ≤ (ps.length : Int) + 1 := by omega
          go_wp2
          go_ret
          have hW : Below w.heap.size w w3 := by
            first
              | exact ((blw_alloc HB2.out _).drew).trans (HB3.out.mono (by simp; omega))
              | exact ((blw_alloc (blw_alloc HB2.out _) _).drew).trans (HB3.out.mono (by simp; omega))
          refine ⟨rfl, ?_⟩
          first
            | exact blw_alloc hW _
            | exact hW.setCell (p := ⟨w2.heap.size + 1, 0, none⟩) (by simp; omega) _
end Go.Proofs.Ytjopjlnnmhokfaa.OracleAgain
