/- The walk of MeterRefuses. -/
import Derived.Test.YtjfjmlcibhdilaaKey
import Derived.Test.YtjfjmlcibhdilaaOpenM
namespace Go.Proofs.Ytjfjmlcibhdilaa.MeterRefuses
open Go.RowKit Go.Proofs.Ytjfjmlcibhdilaa.Base Go.Proofs.Ytjfjmlcibhdilaa.Win Go.Proofs.Ytjfjmlcibhdilaa.Orc Go.Proofs.Ytjfjmlcibhdilaa.Tok Go.Proofs.Ytjfjmlcibhdilaa.Met Go.Proofs.Ytjfjmlcibhdilaa.OpM
set_option linter.unusedVariables false
set_option linter.unusedSimpArgs false
set_option maxRecDepth 20000
/-- What Key's answer is. -/
theorem law (x : Mt) (ps : List Pr) (t : Tk) (hx : x.c1) (hy : x.c2) :
    ((keyR x ps t).2.2 = 0 ∧ x.rev ≤ (keyR x ps t).1.rev ∧ (keyR x ps t).2.1 = max 0 ((keyR x ps t).1.cr - x.cr) ∧ (t.cl = 0 ↔ 0 < (keyR x ps t).2.1) ∧ 0 ≤ (keyR x ps t).1.cr ∧ (keyR x ps t).1.cr ≤ 99999999) ∨
    ((keyR x ps t).2.2 = 12 ∧ (keyR x ps t).1 = badM x ∧ (keyR x ps t).2.1 = 0) ∨
    ((keyR x ps t).2.2 ≠ 0 ∧ (keyR x ps t).2.2 ≠ 12 ∧ (keyR x ps t).2.2 ≠ 5 ∧ (keyR x ps t).1 = x ∧ (keyR x ps t).2.1 = 0) := by
  obtain ⟨⟨a0, a1⟩, ⟨b0, b1⟩, c0, c1⟩ := hx
  unfold keyR
  by_cases hf : faultI t ≠ 0
  · rw [if_pos hf]
    refine .inr (.inr ⟨hf, ?_, ?_, rfl, rfl⟩)
    all_goals
      show faultI t ≠ _
      unfold faultI
      split <;> (try split) <;> simp
  · rw [if_neg hf]
    obtain ⟨⟨k0, k1⟩, ⟨i0, i1⟩, ⟨m0, m1⟩, g0, g1⟩ := fault_ok (Decidable.not_not.1 hf)
    split
    · exact .inr (.inr ⟨by simp, by simp, by simp, rfl, rfl⟩)
    · split
      · exact .inl ⟨rfl, Int.le_refl _, by simp, by simp; omega, c0, c1⟩
      · split
        · rename_i h3 hs
          unfold soldI at *
          split at hs
          · rename_i h4
            rw [if_pos h4]
            exact .inr (.inl ⟨rfl, rfl, rfl⟩)
          · rename_i h4
            rw [if_neg h4]
            split at hs
            · rename_i h5
              rw [if_pos h5]
              exact .inr (.inr ⟨by simp, by simp, by simp, rfl, rfl⟩)
            · exact absurd rfl hs
        · unfold takeR
          split
          · unfold doesR
            by_cases e1 : t.cl = 1
            · simp only [if_pos e1]
              refine .inl ⟨rfl, Int.le_refl _, ?_, ?_, by simp, by simp⟩
              · simp; omega
              · simp; omega
            · simp only [if_neg e1]
              by_cases e2 : t.cl = 2
              · simp only [if_pos e2]
                by_cases h6 : t.am ≤ x.rev
                · simp only [if_pos h6]
                  exact .inr (.inr ⟨by simp, by simp, by simp, by simp, by simp⟩)
                · simp only [if_neg h6]
                  refine .inl ⟨rfl, ?_, ?_, ?_, ?_, ?_⟩ <;> simp <;> omega
              · simp only [if_neg e2]
                have e0 : t.cl = 0 := by omega
                have m2 : 1 ≤ t.am := by rw [e0] at m0; exact m0
                by_cases h6 : x.cr + t.am > 99999999
                · simp only [if_pos h6]
                  exact .inr (.inr ⟨by simp, by simp, by simp, by simp, by simp⟩)
                · simp only [if_neg h6]
                  refine .inl ⟨rfl, ?_, ?_, ?_, ?_, ?_⟩ <;> simp <;> omega
          · rename_i hj
            refine .inr (.inr ⟨hj, ?_, ?_, rfl, rfl⟩)
            all_goals
              show judgeI _ _ _ ≠ _
              unfold judgeI
              split <;> (try split) <;> simp
set_option maxHeartbeats 2000000 in
theorem walk (x : Mt) (cs : List Value) (o : Orv) (os : List Value) (t : Tk) (ts : List Value) (w : World) (hx : cs = x.vals.toList ∧ x.ok) (ho : os = [.slice o.A o.ps.length o.c] ∧ RdE 4 Pr.enc w o.A o.ps ∧ ∀ p ∈ o.ps, p.ok) (ht : ts = t.vals.toList ∧ t.ok) :
    Calls Try.prog 8 #[.agg cs.toArray, .agg os.toArray, .agg ts.toArray] w fun e w' => e = .returned (.bool true) ∧ Below w.heap.size w w' := by
  obtain ⟨rfl, hx⟩ := hx
  obtain ⟨rfl, hr, hk⟩ := ho
  obtain ⟨rfl, ht⟩ := ht
  obtain ⟨ps, A, c⟩ := o
  simp only at hr hk
  rw [show x.vals.toList.toArray = x.vals by simp, show t.vals.toList.toArray = t.vals by simp]
  show Calls Try.prog 8 #[.agg x.vals, .agg #[.slice A ps.length c], .agg t.vals] w _
  have HR := Lib.hid hr
  by_cases hgood : mmay x = true ∧ Orc.Good ps
  · obtain ⟨hm, hg⟩ := hgood
    have HK := Lib.hid (fun w hr => key_yes x ps t A c w hx hm hr hk hg)
    have hl := law x ps t (mmay_lim hm).1 (mmay_lim hm).2.1
    have hl0 := (mmay_lim hm).1
    have hl1 := (mmay_lim hm).2.1
    generalize keyR x ps t = R at *
    obtain ⟨M, rad, rc⟩ := R
    simp only at HK hl
    clear hx hm hg hk hr ht
    obtain ⟨me, rev, cr, wh, wb, bad, lock⟩ := x
    obtain ⟨cl, id, am, tag⟩ := t
    unfold Mt.c1 at hl0
    unfold Mt.c2 at hl1
    simp only at hl hl0 hl1
    obtain ⟨⟨a0, a1⟩, ⟨b0, b1⟩, c0, c1⟩ := hl0
    obtain ⟨⟨d0, d1⟩, ⟨e0, e1⟩, _⟩ := hl1
    rcases hl with ⟨rfl, h1, h2, h3, h4, h5⟩ | ⟨rfl, h1, h2⟩ | ⟨h1, h2, h3, h4, h5⟩
    · unfold Mt.vals Tk.vals at *
      simp only at *
      subst h2
      obtain ⟨mx, hmx⟩ : ∃ m, m = max 0 (M.cr - cr) := ⟨_, rfl⟩
      have hcl : ((cl == 0) == decide (0 < max 0 (M.cr - cr))) = true := by
        rw [beq_iff_eq, Bool.eq_iff_iff]
        simp only [beq_iff_eq, decide_eq_true_eq]
        exact h3
      have HCL := Lib.hid hcl
      clear hcl h3 hmx
      go_enter Try.func8, Try.ntmps8
      go_wp2_with (fail)
      go_at_call 23
      refine (HK.out _ (HR.out.below (blw_alloc (blw_alloc (blw_alloc (Below.refl _ _) _) _) _))).mono ?_
      rintro e w1 ⟨rfl, hb⟩
      obtain ⟨bc, bf⟩ := bcell hb
      have hz1 := hb.size
      simp at hz1
      have HB := Lib.hid (below_then' (blw_alloc (blw_alloc (blw_alloc (Below.refl _ _) _) _) _) hb)
      have lt0 : w.heap.size < w1.heap.size := by omega
      have lt2 : w.heap.size + 1 + 1 < w1.heap.size := by omega
      have ag0 : w1.cell? ⟨w.heap.size, 0, none⟩ = some (.int .i64 me) := by rw [bc _ _ (by simp <;> omega)]; go_simp
      have ag1 : w1.cell? ⟨w.heap.size, 1, none⟩ = some (.int .i64 rev) := by rw [bc _ _ (by simp <;> omega)]; go_simp
      have ag2 : w1.cell? ⟨w.heap.size, 2, none⟩ = some (.int .i64 cr) := by rw [bc _ _ (by simp <;> omega)]; go_simp
      have ag3 : w1.cell? ⟨w.heap.size, 3, none⟩ = some (.int .i64 wh) := by rw [bc _ _ (by simp <;> omega)]; go_simp
      have ag4 : w1.cell? ⟨w.heap.size, 4, none⟩ = some (.int .u64 (wb : Int)) := by rw [bc _ _ (by simp <;> omega)]; go_simp
      have ag5 : w1.cell? ⟨w.heap.size, 5, none⟩ = some (.int .i64 bad) := by rw [bc _ _ (by simp <;> omega)]; go_simp
      have ag6 : w1.cell? ⟨w.heap.size, 6, none⟩ = some (.int .i64 lock) := by rw [bc _ _ (by simp <;> omega)]; go_simp
      have kg0 : w1.cell? ⟨w.heap.size + 1 + 1, 0, none⟩ = some (.int .i64 cl) := by rw [bc _ _ (by simp <;> omega)]; go_simp
      have kg1 : w1.cell? ⟨w.heap.size + 1 + 1, 1, none⟩ = some (.int .i64 id) := by rw [bc _ _ (by simp <;> omega)]; go_simp
      have kg2 : w1.cell? ⟨w.heap.size + 1 + 1, 2, none⟩ = some (.int .i64 am) := by rw [bc _ _ (by simp <;> omega)]; go_simp
      have kg3 : w1.cell? ⟨w.heap.size + 1 + 1, 3, none⟩ = some (.int .i64 tag) := by rw [bc _ _ (by simp <;> omega)]; go_simp
      clear hb bc bf
      go_wp2
      go_ret
      exact ⟨ret_bool HCL.out, blw_alloc HB.out _⟩
    · subst h1 h2
      have h5 : badM ⟨me, rev, cr, wh, wb, bad, lock⟩ = if bad = 4 then ⟨me, rev, cr, wh, wb, 0, 30⟩ else ⟨me, rev, cr, wh, wb, bad + 1, lock⟩ := by
        unfold badM
        simp only
        by_cases hb4 : bad = 4
        · rw [if_pos (by omega), if_pos hb4]
        · rw [if_neg (by omega), if_neg hb4]
      rw [h5] at HK
      clear h5
      by_cases hb4 : bad = 4
      · subst hb4
        rw [if_pos rfl] at HK
        unfold Mt.vals Tk.vals at *
        simp only at *
        go_enter Try.func8, Try.ntmps8
        go_wp2_with (fail)
        go_at_call 23
        refine (HK.out _ (HR.out.below (blw_alloc (blw_alloc (blw_alloc (Below.refl _ _) _) _) _))).mono ?_
        rintro e w1 ⟨rfl, hb⟩
        obtain ⟨bc, bf⟩ := bcell hb
        have hz1 := hb.size
        simp at hz1
        have HB := Lib.hid (below_then' (blw_alloc (blw_alloc (blw_alloc (Below.refl _ _) _) _) _) hb)
        have lt0 : w.heap.size < w1.heap.size := by omega
        have lt2 : w.heap.size + 1 + 1 < w1.heap.size := by omega
        have ag0 : w1.cell? ⟨w.heap.size, 0, none⟩ = some (.int .i64 me) := by rw [bc _ _ (by simp <;> omega)]; go_simp
        have ag1 : w1.cell? ⟨w.heap.size, 1, none⟩ = some (.int .i64 rev) := by rw [bc _ _ (by simp <;> omega)]; go_simp
        have ag2 : w1.cell? ⟨w.heap.size, 2, none⟩ = some (.int .i64 cr) := by rw [bc _ _ (by simp <;> omega)]; go_simp
        have ag3 : w1.cell? ⟨w.heap.size, 3, none⟩ = some (.int .i64 wh) := by rw [bc _ _ (by simp <;> omega)]; go_simp
        have ag4 : w1.cell? ⟨w.heap.size, 4, none⟩ = some (.int .u64 (wb : Int)) := by rw [bc _ _ (by simp <;> omega)]; go_simp
        have ag5 : w1.cell? ⟨w.heap.size, 5, none⟩ = some (.int .i64 4) := by rw [bc _ _ (by simp <;> omega)]; go_simp
        have ag6 : w1.cell? ⟨w.heap.size, 6, none⟩ = some (.int .i64 lock) := by rw [bc _ _ (by simp <;> omega)]; go_simp
        have kg0 : w1.cell? ⟨w.heap.size + 1 + 1, 0, none⟩ = some (.int .i64 cl) := by rw [bc _ _ (by simp <;> omega)]; go_simp
        have kg1 : w1.cell? ⟨w.heap.size + 1 + 1, 1, none⟩ = some (.int .i64 id) := by rw [bc _ _ (by simp <;> omega)]; go_simp
        have kg2 : w1.cell? ⟨w.heap.size + 1 + 1, 2, none⟩ = some (.int .i64 am) := by rw [bc _ _ (by simp <;> omega)]; go_simp
        have kg3 : w1.cell? ⟨w.heap.size + 1 + 1, 3, none⟩ = some (.int .i64 tag) := by rw [bc _ _ (by simp <;> omega)]; go_simp
        clear hb bc bf
        go_wp2
        go_ret
        exact ⟨by first | rfl | exact ret_bool (by simp), blw_alloc (blw_alloc HB.out _) _⟩
      · rw [if_neg hb4] at HK
        have hb4' : (bad == 4) = false := beq_eq_false_iff_ne.mpr hb4
        clear hb4
        unfold Mt.vals Tk.vals at *
        simp only at *
        go_enter Try.func8, Try.ntmps8
        go_wp2_with (fail)
        go_at_call 23
        refine (HK.out _ (HR.out.below (blw_alloc (blw_alloc (blw_alloc (Below.refl _ _) _) _) _))).mono ?_
        rintro e w1 ⟨rfl, hb⟩
        obtain ⟨bc, bf⟩ := bcell hb
        have hz1 := hb.size
        simp at hz1
        have HB := Lib.hid (below_then' (blw_alloc (blw_alloc (blw_alloc (Below.refl _ _) _) _) _) hb)
        have lt0 : w.heap.size < w1.heap.size := by omega
        have lt2 : w.heap.size + 1 + 1 < w1.heap.size := by omega
        have ag0 : w1.cell? ⟨w.heap.size, 0, none⟩ = some (.int .i64 me) := by rw [bc _ _ (by simp <;> omega)]; go_simp
        have ag1 : w1.cell? ⟨w.heap.size, 1, none⟩ = some (.int .i64 rev) := by rw [bc _ _ (by simp <;> omega)]; go_simp
        have ag2 : w1.cell? ⟨w.heap.size, 2, none⟩ = some (.int .i64 cr) := by rw [bc _ _ (by simp <;> omega)]; go_simp
        have ag3 : w1.cell? ⟨w.heap.size, 3, none⟩ = some (.int .i64 wh) := by rw [bc _ _ (by simp <;> omega)]; go_simp
        have ag4 : w1.cell? ⟨w.heap.size, 4, none⟩ = some (.int .u64 (wb : Int)) := by rw [bc _ _ (by simp <;> omega)]; go_simp
        have ag5 : w1.cell? ⟨w.heap.size, 5, none⟩ = some (.int .i64 bad) := by rw [bc _ _ (by simp <;> omega)]; go_simp
        have ag6 : w1.cell? ⟨w.heap.size, 6, none⟩ = some (.int .i64 lock) := by rw [bc _ _ (by simp <;> omega)]; go_simp
        have kg0 : w1.cell? ⟨w.heap.size + 1 + 1, 0, none⟩ = some (.int .i64 cl) := by rw [bc _ _ (by simp <;> omega)]; go_simp
        have kg1 : w1.cell? ⟨w.heap.size + 1 + 1, 1, none⟩ = some (.int .i64 id) := by rw [bc _ _ (by simp <;> omega)]; go_simp
        have kg2 : w1.cell? ⟨w.heap.size + 1 + 1, 2, none⟩ = some (.int .i64 am) := by rw [bc _ _ (by simp <;> omega)]; go_simp
        have kg3 : w1.cell? ⟨w.heap.size + 1 + 1, 3, none⟩ = some (.int .i64 tag) := by rw [bc _ _ (by simp <;> omega)]; go_simp
        clear hb bc bf
        go_wp2
        go_ret
        exact ⟨by first | rfl | exact ret_bool (by simp), blw_alloc (blw_alloc HB.out _) _⟩
    · subst h4 h5
      have h1' : (rc == 0) = false := beq_eq_false_iff_ne.mpr h1
      have h2' : (rc != 12) = true := bne_iff_ne.mpr h2
      have h3' : (rc == 5) = false := beq_eq_false_iff_ne.mpr h3
      clear h1 h2 h3
      unfold Mt.vals Tk.vals at *
      simp only at *
      go_enter Try.func8, Try.ntmps8
      go_wp2_with (fail)
      go_at_call 23
      refine (HK.out _ (HR.out.below (blw_alloc (blw_alloc (blw_alloc (Below.refl _ _) _) _) _))).mono ?_
      rintro e w1 ⟨rfl, hb⟩
      obtain ⟨bc, bf⟩ := bcell hb
      have hz1 := hb.size
      simp at hz1
      have HB := Lib.hid (below_then' (blw_alloc (blw_alloc (blw_alloc (Below.refl _ _) _) _) _) hb)
      have lt0 : w.heap.size < w1.heap.size := by omega
      have lt2 : w.heap.size + 1 + 1 < w1.heap.size := by omega
      have ag0 : w1.cell? ⟨w.heap.size, 0, none⟩ = some (.int .i64 me) := by rw [bc _ _ (by simp <;> omega)]; go_simp
      have ag1 : w1.cell? ⟨w.heap.size, 1, none⟩ = some (.int .i64 rev) := by rw [bc _ _ (by simp <;> omega)]; go_simp
      have ag2 : w1.cell? ⟨w.heap.size, 2, none⟩ = some (.int .i64 cr) := by rw [bc _ _ (by simp <;> omega)]; go_simp
      have ag3 : w1.cell? ⟨w.heap.size, 3, none⟩ = some (.int .i64 wh) := by rw [bc _ _ (by simp <;> omega)]; go_simp
      have ag4 : w1.cell? ⟨w.heap.size, 4, none⟩ = some (.int .u64 (wb : Int)) := by rw [bc _ _ (by simp <;> omega)]; go_simp
      have ag5 : w1.cell? ⟨w.heap.size, 5, none⟩ = some (.int .i64 bad) := by rw [bc _ _ (by simp <;> omega)]; go_simp
      have ag6 : w1.cell? ⟨w.heap.size, 6, none⟩ = some (.int .i64 lock) := by rw [bc _ _ (by simp <;> omega)]; go_simp
      have kg0 : w1.cell? ⟨w.heap.size + 1 + 1, 0, none⟩ = some (.int .i64 cl) := by rw [bc _ _ (by simp <;> omega)]; go_simp
      have kg1 : w1.cell? ⟨w.heap.size + 1 + 1, 1, none⟩ = some (.int .i64 id) := by rw [bc _ _ (by simp <;> omega)]; go_simp
      have kg2 : w1.cell? ⟨w.heap.size + 1 + 1, 2, none⟩ = some (.int .i64 am) := by rw [bc _ _ (by simp <;> omega)]; go_simp
      have kg3 : w1.cell? ⟨w.heap.size + 1 + 1, 3, none⟩ = some (.int .i64 tag) := by rw [bc _ _ (by simp <;> omega)]; go_simp
      clear hb bc bf
      go_wp2
      go_ret
      exact ⟨by first | rfl | exact ret_bool (by simp), blw_alloc HB.out _⟩
  · have hno : mmay x = false ∨ ¬ Orc.Good ps := by
      cases hm : mmay x
      · exact .inl rfl
      · exact .inr fun hg => hgood ⟨hm, hg⟩
    have HK := Lib.hid (fun w hr => key_no x ps t A c w hx hno hr hk)
    clear hx hk hr ht hgood hno
    obtain ⟨me, rev, cr, wh, wb, bad, lock⟩ := x
    obtain ⟨cl, id, am, tag⟩ := t
    unfold Mt.vals Tk.vals zeroK at *
    simp only at *
    go_enter Try.func8, Try.ntmps8
    go_wp2_with (fail)
    go_at_call 23
    refine (HK.out _ (HR.out.below (blw_alloc (blw_alloc (blw_alloc (Below.refl _ _) _) _) _))).mono ?_
    rintro e w1 ⟨rfl, hb⟩
    obtain ⟨bc, bf⟩ := bcell hb
    have hz1 := hb.size
    simp at hz1
    have HB := Lib.hid (below_then' (blw_alloc (blw_alloc (blw_alloc (Below.refl _ _) _) _) _) hb)
    have lt0 : w.heap.size < w1.heap.size := by omega
    have lt2 : w.heap.size + 1 + 1 < w1.heap.size := by omega
    clear hb bc bf
    go_wp2
    go_ret
    exact ⟨by first | rfl | exact ret_bool (by simp), blw_alloc HB.out _⟩
end Go.Proofs.Ytjfjmlcibhdilaa.MeterRefuses
