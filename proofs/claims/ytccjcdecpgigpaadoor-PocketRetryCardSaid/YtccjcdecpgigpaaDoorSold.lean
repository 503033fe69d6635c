/- Contracts of made, sold. -/
import Derived.Test.YtccjcdecpgigpaaDoorOrcP
import Derived.Test.YtccjcdecpgigpaaDoorMay
import Derived.Test.YtccjcdecpgigpaaDoorTok
namespace Go.Proofs.YtccjcdecpgigpaaDoor.Met
open Go.RowKit Go.Proofs.YtccjcdecpgigpaaDoor.Base Go.Proofs.YtccjcdecpgigpaaDoor.Win Go.Proofs.YtccjcdecpgigpaaDoor.Orc Go.Proofs.YtccjcdecpgigpaaDoor.Tok
set_option linter.unusedVariables false
set_option linter.unusedSimpArgs false
set_option maxRecDepth 20000
def madeT (x : Tk) : Tk := ⟨pk x.cl 4, 1 + pk x.id 1048575, if pk x.cl 4 = 0 then 1 + pk x.am 2097151 else if pk x.cl 4 = 2 then 1 + pk x.am 15 else 0, pk x.tag 65536⟩
theorem made_good (x : Tk) : faultI (madeT x) = 0 := by
  obtain ⟨a0, a1⟩ := pk_bound x.cl 4 (by omega)
  obtain ⟨b0, b1⟩ := pk_bound x.id 1048575 (by omega)
  obtain ⟨c0, c1⟩ := pk_bound x.am 2097151 (by omega)
  obtain ⟨d0, d1⟩ := pk_bound x.am 15 (by omega)
  obtain ⟨e0, e1⟩ := pk_bound x.tag 65536 (by omega)
  unfold faultI
  rw [if_pos, if_pos]
  · unfold inb madeT amLo amHi
    refine ⟨⟨by simp only; omega, by simp only; omega⟩, ⟨?_, ?_⟩, by simp only; omega, by simp only; omega⟩ <;> simp only <;> split <;> (try split) <;> omega
  · unfold clok madeT
    simp only
    omega
set_option maxHeartbeats 1000000 in
theorem made_any (x : Tk) (w : World) (hk : x.ok) :
    Calls Tryd.prog 15 #[.agg x.vals] w fun e w' => e = .returned (.agg (madeT x).vals) ∧ Below w.heap.size w w' := by
  obtain ⟨⟨⟨a0, a1⟩, ⟨b0, b1⟩⟩, ⟨c0, c1⟩, d0, d1⟩ := hk
  obtain ⟨cl, id, am, tag⟩ := x
  have hT : madeT ⟨cl, id, am, tag⟩ = ⟨pk cl 4, 1 + pk id 1048575, if pk cl 4 = 0 then 1 + pk am 2097151 else if pk cl 4 = 2 then 1 + pk am 15 else 0, pk tag 65536⟩ := rfl
  obtain ⟨q0, q1⟩ := pk_bound cl 4 (by omega)
  obtain ⟨r0, r1⟩ := pk_bound id 1048575 (by omega)
  obtain ⟨s0, s1⟩ := pk_bound am 2097151 (by omega)
  obtain ⟨t0, t1⟩ := pk_bound am 15 (by omega)
  rw [hT]
  unfold Tk.vals
  simp only at *
  clear hT
  obtain ⟨k, hq⟩ : ∃ k, pk cl 4 = k := ⟨_, rfl⟩
  obtain ⟨i, hi⟩ : ∃ k, pk id 1048575 = k := ⟨_, rfl⟩
  obtain ⟨u, hu⟩ : ∃ k, pk am 2097151 = k := ⟨_, rfl⟩
  obtain ⟨v, hv⟩ : ∃ k, pk am 15 = k := ⟨_, rfl⟩
  obtain ⟨g, hg⟩ : ∃ k, pk tag 65536 = k := ⟨_, rfl⟩
  rw [hq, hi, hu, hv, hg]
  rw [hq] at q0 q1
  rw [hi] at r0 r1
  rw [hu] at s0 s1
  rw [hv] at t0 t1
  have hk : k = 0 ∨ k = 2 ∨ (k ≠ 0 ∧ k ≠ 2) := by omega
  rcases hk with rfl | rfl | ⟨k0, k2⟩
  · rw [if_pos rfl]
    go_enter Tryd.func15, Tryd.ntmps15
    go_wp2
    go_region_held3 (fun w' => w'.cell? ⟨w.heap.size, 0, none⟩ = some (.int .i64 cl) ∧ w'.cell? ⟨w.heap.size, 1, none⟩ = some (.int .i64 id) ∧ w'.cell? ⟨w.heap.size, 3, none⟩ = some (.int .i64 tag)) (go_keep) ((go_at_call 17; refine (picked_any _ _ _ (by omega) (by omega) (by omega)).mono ?_; rintro e w' ⟨rfl, rfl⟩; first | rw [hq] | rw [hi] | rw [hg]))
    all_goals
      have wi : IntKind.i64.wrap (1 + i) = 1 + i := by rw [IntKind.wrap_i64]; omega
      have wu : IntKind.i64.wrap (1 + u) = 1 + u := by rw [IntKind.wrap_i64]; omega
      have wv : IntKind.i64.wrap (1 + v) = 1 + v := by rw [IntKind.wrap_i64]; omega
      rw [wi]
      go_wp2_with (fail)
      go_at_call 17
      refine (picked_any _ _ _ (by omega) (by omega) (by omega)).mono ?_
      rintro e w' ⟨rfl, rfl⟩
      rw [hu]
      go_wp2
      refine bodyPost_ret (v := .agg #[.int .i64 0, .int .i64 (1 + i), .int .i64 (1 + u), .int .i64 g]) (by simp [results, Tryd.results15, go_sem]) rfl ⟨rfl, ?_⟩
      exact (blw_alloc (blw_alloc (blw_alloc (Below.refl _ _) _) _) _).drew
  · rw [if_neg (by omega), if_pos rfl]
    go_enter Tryd.func15, Tryd.ntmps15
    go_wp2
    go_region_held3 (fun w' => w'.cell? ⟨w.heap.size, 0, none⟩ = some (.int .i64 cl) ∧ w'.cell? ⟨w.heap.size, 1, none⟩ = some (.int .i64 id) ∧ w'.cell? ⟨w.heap.size, 3, none⟩ = some (.int .i64 tag)) (go_keep) ((go_at_call 17; refine (picked_any _ _ _ (by omega) (by omega) (by omega)).mono ?_; rintro e w' ⟨rfl, rfl⟩; first | rw [hq] | rw [hi] | rw [hg]))
    all_goals
      have wi : IntKind.i64.wrap (1 + i) = 1 + i := by rw [IntKind.wrap_i64]; omega
      have wu : IntKind.i64.wrap (1 + u) = 1 + u := by rw [IntKind.wrap_i64]; omega
      have wv : IntKind.i64.wrap (1 + v) = 1 + v := by rw [IntKind.wrap_i64]; omega
      rw [wi]
      go_wp2_with (fail)
      go_at_call 17
      refine (picked_any _ _ _ (by omega) (by omega) (by omega)).mono ?_
      rintro e w' ⟨rfl, rfl⟩
      rw [hv]
      go_wp2
      refine bodyPost_ret (v := .agg #[.int .i64 2, .int .i64 (1 + i), .int .i64 (1 + v), .int .i64 g]) (by simp [results, Tryd.results15, go_sem]) rfl ⟨rfl, ?_⟩
      exact (blw_alloc (blw_alloc (blw_alloc (Below.refl _ _) _) _) _).drew
  · rw [if_neg k0, if_neg k2]
    have k0' : (k == 0) = false := beq_eq_false_iff_ne.mpr k0
    have k2' : (k == 2) = false := beq_eq_false_iff_ne.mpr k2
    go_enter Tryd.func15, Tryd.ntmps15
    go_wp2
    go_region_held3 (fun w' => w'.cell? ⟨w.heap.size, 0, none⟩ = some (.int .i64 cl) ∧ w'.cell? ⟨w.heap.size, 1, none⟩ = some (.int .i64 id) ∧ w'.cell? ⟨w.heap.size, 3, none⟩ = some (.int .i64 tag)) (go_keep) ((go_at_call 17; refine (picked_any _ _ _ (by omega) (by omega) (by omega)).mono ?_; rintro e w' ⟨rfl, rfl⟩; first | rw [hq] | rw [hi] | rw [hg]))
    all_goals
      have wi : IntKind.i64.wrap (1 + i) = 1 + i := by rw [IntKind.wrap_i64]; omega
      have wu : IntKind.i64.wrap (1 + u) = 1 + u := by rw [IntKind.wrap_i64]; omega
      have wv : IntKind.i64.wrap (1 + v) = 1 + v := by rw [IntKind.wrap_i64]; omega
      rw [wi]
      go_wp2
      refine bodyPost_ret (v := .agg #[.int .i64 k, .int .i64 (1 + i), .int .i64 0, .int .i64 g]) (by simp [results, Tryd.results15, go_sem]) rfl ⟨rfl, ?_⟩
      exact (blw_alloc (blw_alloc (blw_alloc (Below.refl _ _) _) _) _).drew
/-- The token that sold gives. -/
def soldT (ps : List Pr) (me rev : Int) (x : Tk) : Tk := { madeT x with tag := issT ps me rev (bodyI (madeT x)) (madeT x).tag }
theorem soldT_good (ps : List Pr) (me rev : Int) (x : Tk) (hg : Orc.Good ps) : faultI (soldT ps me rev x) = 0 := by
  have h := made_good x
  obtain ⟨hc, hi, ha, h0, h1⟩ := fault_ok h
  unfold faultI
  rw [if_pos (show clok (soldT ps me rev x).cl from hc), if_pos]
  refine ⟨hi, ha, ?_⟩
  show 0 ≤ issT ps me rev _ _ ∧ issT ps me rev _ _ ≤ 65535
  unfold issT
  split
  · exact tagL_le _ _ _ _ hg.all
  · exact ⟨h0, h1⟩
theorem made_lim (x : Tk) : Orc.i64 (bodyI (madeT x)) ∧ (0 ≤ bodyI (madeT x) ∧ bodyI (madeT x) ≤ 8796093022207) ∧ 0 ≤ (madeT x).tag ∧ (madeT x).tag ≤ 65535 := by
  obtain ⟨⟨c0, c1⟩, ⟨i0, i1⟩, ⟨a0, a1⟩, g0, g1⟩ := fault_ok (made_good x)
  have l0 : 0 ≤ amLo (madeT x).cl := by unfold amLo; split <;> omega
  have l1 : amHi (madeT x).cl ≤ 2097151 := by unfold amHi; split <;> (try split) <;> omega
  generalize madeT x = t at *
  unfold bodyI Orc.i64
  omega
set_option maxHeartbeats 4000000 in
theorem sold_any (ps : List Pr) (A : Option Addr) (c : Nat) (m : Mt) (x : Tk) (w : World) (hr : RdE 4 Pr.enc w A ps) (hk : ∀ p ∈ ps, p.ok) (hg : Orc.Good ps) (hA : A = none → ps = [] ∧ c = 0) (m0 : 0 ≤ m.me ∧ m.me < 50) (r0 : 0 ≤ m.rev ∧ m.rev ≤ 15) (hx : x.ok)
    (hroom : had ps m.me m.rev (bodyI (madeT x)) = true ∨ ps.length < 500) :
    Calls Tryd.prog 33 #[.agg #[.slice A ps.length c], .agg m.vals, .agg x.vals] w fun e w' => ∃ B q, e = .returned (.tuple #[.agg #[.slice B (issL ps m.me m.rev (bodyI (madeT x)) (madeT x).tag).length q], .agg (soldT ps m.me m.rev x).vals, .bool true]) ∧ OwPr w.heap.size w' B q (issL ps m.me m.rev (bodyI (madeT x)) (madeT x).tag) ∧ Below w.heap.size w w' := by
  have HR := Lib.hid hr
  have HM := Lib.hid (fun w => made_any x w hx)
  have hfl := made_good x
  obtain ⟨hb64, ⟨hb0, hb1⟩, ht0, ht1⟩ := made_lim x
  have hwk : wok m.me m.rev (bodyI (madeT x)) = true := by unfold wok; exact decide_eq_true ⟨m0, ⟨r0.1, r0.2⟩, hb0, hb1⟩
  have HI := Lib.hid (fun w hr => issue_ok ps m.me m.rev (bodyI (madeT x)) (madeT x).tag A c w hr hk hg hA ⟨by omega, by omega⟩ ⟨by omega, by omega⟩ hb64 hwk ht0 ht1 hroom)
  have hbd := fun w => body_any (madeT x) w
  rw [hfl, if_pos rfl] at hbd
  have HBD := Lib.hid hbd
  have hT : soldT ps m.me m.rev x = { madeT x with tag := issT ps m.me m.rev (bodyI (madeT x)) (madeT x).tag } := rfl
  rw [hT]
  clear hr hk hg hA hx hroom hfl hb64 hb0 hb1 ht0 ht1 hwk hbd hT m0 r0
  generalize issT ps m.me m.rev (bodyI (madeT x)) (madeT x).tag = tg at *
  generalize issL ps m.me m.rev (bodyI (madeT x)) (madeT x).tag = ps2 at *
  generalize bodyI (madeT x) = bd at *
  generalize madeT x = t at *
  obtain ⟨me, rev, cr, wh, wb, bad, lock⟩ := m
  obtain ⟨cl, id, am, tag⟩ := t
  obtain ⟨rcl, rid, ram, rtag⟩ := x
  unfold Mt.vals Tk.vals
  unfold Tk.vals at HM HBD
  simp only at *
  go_enter Tryd.func33, Tryd.ntmps33
  go_wp2_with (fail)
  go_at_call 15
  refine (HM.out _).mono ?_
  rintro e w1 ⟨rfl, hb⟩
  obtain ⟨bc, bf⟩ := bcell hb
  have hz1 := hb.size
  simp at hz1
  have HB1 := Lib.hid (below_then' (blw_alloc (blw_alloc (blw_alloc (blw_alloc (blw_alloc (Below.refl _ _) _) _) _) _) _) hb)
  have hb1' := bc
  have hf1' := bf
  simp only [World.size_alloc] at hb1' hf1'
  have BC1 := Lib.hid hb1'
  have BF1 := Lib.hid hf1'
  clear hb bc bf hb1' hf1'
  go_wp2_with (fail)
  go_at_call 72
  refine (HBD.out _).mono ?_
  rintro e w2 ⟨rfl, hb⟩
  obtain ⟨bc, bf⟩ := bcell hb
  have hz2 := hb.size
  simp at hz2
  have HB2 := Lib.hid (below_then HB1.out HB1.out.size ((blw_alloc (Below.refl _ _) _).trans (hb.mono (by simp))))
  have BC2 := Lib.hid bc
  have BF2 := Lib.hid bf
  have lt0 : w.heap.size < w2.heap.size := by omega
  have lt1 : w.heap.size + 1 < w2.heap.size := by omega
  have lt2 : w.heap.size + 1 + 1 + 1 < w2.heap.size := by omega
  have lt3 : w.heap.size + 1 + 1 + 1 + 1 < w2.heap.size := by omega
  have lt4 : w1.heap.size < w2.heap.size := by omega
  have bc' : ∀ b o, b < w.heap.size + 1 + 1 + 1 + 1 + 1 → w2.cell? ⟨b, o, none⟩ = w1.cell? ⟨b, o, none⟩ := fun b o h => by rw [bc b o (by simp; omega)]; exact Below.cell (blw_alloc (Below.refl w1.heap.size w1) _) (p := ⟨b, o, none⟩) (by simp; omega)
  have a0 : w2.cell? ⟨w.heap.size, 0, none⟩ = some (.slice A ps.length c) := by rw [bc' _ _ (by omega), BC1.out _ _ (by omega)]; go_simp
  have a1 : w2.cell? ⟨w.heap.size + 1, 0, none⟩ = some (.int .i64 me) := by rw [bc' _ _ (by omega), BC1.out _ _ (by omega)]; go_simp
  have a2 : w2.cell? ⟨w.heap.size + 1, 1, none⟩ = some (.int .i64 rev) := by rw [bc' _ _ (by omega), BC1.out _ _ (by omega)]; go_simp
  have yg0 : w2.cell? ⟨w1.heap.size, 0, none⟩ = some (.int .i64 cl) := by rw [bc _ _ (by first | omega | (simp <;> omega))]; first | with_reducible assumption | go_simp
  have yf0 : w2.frozen? ⟨w1.heap.size, 0, none⟩ = false := by rw [bf _ _ (by first | omega | (simp <;> omega))]; first | with_reducible assumption | go_simp
  have yg1 : w2.cell? ⟨w1.heap.size, 1, none⟩ = some (.int .i64 id) := by rw [bc _ _ (by first | omega | (simp <;> omega))]; first | with_reducible assumption | go_simp
  have yf1 : w2.frozen? ⟨w1.heap.size, 1, none⟩ = false := by rw [bf _ _ (by first | omega | (simp <;> omega))]; first | with_reducible assumption | go_simp
  have yg2 : w2.cell? ⟨w1.heap.size, 2, none⟩ = some (.int .i64 am) := by rw [bc _ _ (by first | omega | (simp <;> omega))]; first | with_reducible assumption | go_simp
  have yf2 : w2.frozen? ⟨w1.heap.size, 2, none⟩ = false := by rw [bf _ _ (by first | omega | (simp <;> omega))]; first | with_reducible assumption | go_simp
  have yg3 : w2.cell? ⟨w1.heap.size, 3, none⟩ = some (.int .i64 tag) := by rw [bc _ _ (by first | omega | (simp <;> omega))]; first | with_reducible assumption | go_simp
  have yf3 : w2.frozen? ⟨w1.heap.size, 3, none⟩ = false := by rw [bf _ _ (by first | omega | (simp <;> omega))]; first | with_reducible assumption | go_simp
  have BCP := Lib.hid bc'
  have bff : ∀ b o, b < w.heap.size + 1 + 1 + 1 + 1 + 1 → w2.frozen? ⟨b, o, none⟩ = w1.frozen? ⟨b, o, none⟩ := fun b o h => by rw [bf b o (by simp; omega)]; exact Below.frozen (blw_alloc (Below.refl w1.heap.size w1) _) (p := ⟨b, o, none⟩) (by simp; omega)
  have BFP := Lib.hid bff
  clear hb bc bf bc' bff
  go_wp2_with (fail)
  go_at_call 73
  refine (HI.out _ (HR.out.below HB2.out)).mono ?_
  rintro e w3 ⟨B, q, rfl, ho3, hb⟩
  obtain ⟨bc, bf⟩ := bcell hb
  have hz3 := hb.size
  have HO3 := Lib.hid ho3
  have HB3 := Lib.hid (below_then HB2.out HB2.out.size hb)
  clear a0 a1 a2
  have b0 : w3.cell? ⟨w.heap.size + 1 + 1 + 1, 0, none⟩ = some (.slice none 0 0) := by rw [bc _ _ (by omega), BCP.out _ _ (by omega), BC1.out _ _ (by omega)]; go_simp
  have b1 : w3.frozen? ⟨w.heap.size + 1 + 1 + 1, 0, none⟩ = false := by rw [bf _ _ (by omega), BFP.out _ _ (by omega), BF1.out _ _ (by omega)]; go_simp
  have c0 : w3.cell? ⟨w.heap.size + 1 + 1 + 1 + 1, 0, none⟩ = some (.int .i64 0) := by rw [bc _ _ (by omega), BCP.out _ _ (by omega), BC1.out _ _ (by omega)]; go_simp
  have c1 : w3.cell? ⟨w.heap.size + 1 + 1 + 1 + 1, 1, none⟩ = some (.int .i64 0) := by rw [bc _ _ (by omega), BCP.out _ _ (by omega), BC1.out _ _ (by omega)]; go_simp
  have c2 : w3.cell? ⟨w.heap.size + 1 + 1 + 1 + 1, 2, none⟩ = some (.int .i64 0) := by rw [bc _ _ (by omega), BCP.out _ _ (by omega), BC1.out _ _ (by omega)]; go_simp
  have c3 : w3.cell? ⟨w.heap.size + 1 + 1 + 1 + 1, 3, none⟩ = some (.int .i64 0) := by rw [bc _ _ (by omega), BCP.out _ _ (by omega), BC1.out _ _ (by omega)]; go_simp
  have d0 : w3.frozen? ⟨w.heap.size + 1 + 1 + 1 + 1, 0, none⟩ = false := by rw [bf _ _ (by omega), BFP.out _ _ (by omega), BF1.out _ _ (by omega)]; go_simp
  have d1 : w3.frozen? ⟨w.heap.size + 1 + 1 + 1 + 1, 1, none⟩ = false := by rw [bf _ _ (by omega), BFP.out _ _ (by omega), BF1.out _ _ (by omega)]; go_simp
  have d2 : w3.frozen? ⟨w.heap.size + 1 + 1 + 1 + 1, 2, none⟩ = false := by rw [bf _ _ (by omega), BFP.out _ _ (by omega), BF1.out _ _ (by omega)]; go_simp
  have d3 : w3.frozen? ⟨w.heap.size + 1 + 1 + 1 + 1, 3, none⟩ = false := by rw [bf _ _ (by omega), BFP.out _ _ (by omega), BF1.out _ _ (by omega)]; go_simp
  have zg0 := (bc w1.heap.size 0 lt4).trans yg0
  have zg1 := (bc w1.heap.size 1 lt4).trans yg1
  have zg2 := (bc w1.heap.size 2 lt4).trans yg2
  have zg3 := (bc w1.heap.size 3 lt4).trans yg3
  have zf0 := (bf w1.heap.size 0 lt4).trans yf0
  have zf1 := (bf w1.heap.size 1 lt4).trans yf1
  have zf2 := (bf w1.heap.size 2 lt4).trans yf2
  have zf3 := (bf w1.heap.size 3 lt4).trans yf3
  have lt5 : w1.heap.size < w3.heap.size := by omega
  have lt6 : w.heap.size + 1 + 1 + 1 < w3.heap.size := by omega
  have lt7 : w.heap.size + 1 + 1 + 1 + 1 < w3.heap.size := by omega
  have n1 : w.heap.size + 1 + 1 + 1 ≠ w1.heap.size := by omega
  have n2 : w1.heap.size ≠ w.heap.size + 1 + 1 + 1 := by omega
  have n3 : w.heap.size + 1 + 1 + 1 + 1 ≠ w1.heap.size := by omega
  have n4 : w1.heap.size ≠ w.heap.size + 1 + 1 + 1 + 1 := by omega
  have n9 : w1.heap.size ≠ w3.heap.size := by omega
  have n0 : w3.heap.size ≠ w1.heap.size := by omega
  have n5 : w.heap.size + 1 + 1 + 1 ≠ w3.heap.size := by omega
  have n6 : w3.heap.size ≠ w.heap.size + 1 + 1 + 1 := by omega
  have n7 : w.heap.size + 1 + 1 + 1 + 1 ≠ w3.heap.size := by omega
  have n8 : w3.heap.size ≠ w.heap.size + 1 + 1 + 1 + 1 := by omega
  clear hb bc bf ho3 yg0 yg1 yg2 yg3 yf0 yf1 yf2 yf3
  go_wp2
  have s0 : ((w3.setCell ⟨w1.heap.size, 3, none⟩ (.int .i64 tg)).alloc (.cells #[.slice B ps2.length q] 58)).cell? ⟨w3.heap.size, 0, none⟩ = some (.slice B ps2.length q) := by go_simp
  have s1 : ((w3.setCell ⟨w1.heap.size, 3, none⟩ (.int .i64 tg)).alloc (.cells #[.slice B ps2.length q] 58)).cell? ⟨w1.heap.size, 0, none⟩ = some (.int .i64 cl) := by go_simp
  have s2 : ((w3.setCell ⟨w1.heap.size, 3, none⟩ (.int .i64 tg)).alloc (.cells #[.slice B ps2.length q] 58)).cell? ⟨w1.heap.size, 1, none⟩ = some (.int .i64 id) := by go_simp
  have s3 : ((w3.setCell ⟨w1.heap.size, 3, none⟩ (.int .i64 tg)).alloc (.cells #[.slice B ps2.length q] 58)).cell? ⟨w1.heap.size, 2, none⟩ = some (.int .i64 am) := by go_simp
  have s4 : ((w3.setCell ⟨w1.heap.size, 3, none⟩ (.int .i64 tg)).alloc (.cells #[.slice B ps2.length q] 58)).cell? ⟨w1.heap.size, 3, none⟩ = some (.int .i64 tg) := by go_simp
  have t0 : ((w3.setCell ⟨w1.heap.size, 3, none⟩ (.int .i64 tg)).alloc (.cells #[.slice B ps2.length q] 58)).cell? ⟨w.heap.size + 1 + 1 + 1, 0, none⟩ = some (.slice none 0 0) := by go_simp
  have t1 : ((w3.setCell ⟨w1.heap.size, 3, none⟩ (.int .i64 tg)).alloc (.cells #[.slice B ps2.length q] 58)).frozen? ⟨w.heap.size + 1 + 1 + 1, 0, none⟩ = false := by go_simp
  have u0 : ((w3.setCell ⟨w1.heap.size, 3, none⟩ (.int .i64 tg)).alloc (.cells #[.slice B ps2.length q] 58)).cell? ⟨w.heap.size + 1 + 1 + 1 + 1, 0, none⟩ = some (.int .i64 0) := by go_simp
  have v0 : ((w3.setCell ⟨w1.heap.size, 3, none⟩ (.int .i64 tg)).alloc (.cells #[.slice B ps2.length q] 58)).frozen? ⟨w.heap.size + 1 + 1 + 1 + 1, 0, none⟩ = false := by go_simp
  have u1 : ((w3.setCell ⟨w1.heap.size, 3, none⟩ (.int .i64 tg)).alloc (.cells #[.slice B ps2.length q] 58)).cell? ⟨w.heap.size + 1 + 1 + 1 + 1, 1, none⟩ = some (.int .i64 0) := by go_simp
  have v1 : ((w3.setCell ⟨w1.heap.size, 3, none⟩ (.int .i64 tg)).alloc (.cells #[.slice B ps2.length q] 58)).frozen? ⟨w.heap.size + 1 + 1 + 1 + 1, 1, none⟩ = false := by go_simp
  have u2 : ((w3.setCell ⟨w1.heap.size, 3, none⟩ (.int .i64 tg)).alloc (.cells #[.slice B ps2.length q] 58)).cell? ⟨w.heap.size + 1 + 1 + 1 + 1, 2, none⟩ = some (.int .i64 0) := by go_simp
  have v2 : ((w3.setCell ⟨w1.heap.size, 3, none⟩ (.int .i64 tg)).alloc (.cells #[.slice B ps2.length q] 58)).frozen? ⟨w.heap.size + 1 + 1 + 1 + 1, 2, none⟩ = false := by go_simp
  have u3 : ((w3.setCell ⟨w1.heap.size, 3, none⟩ (.int .i64 tg)).alloc (.cells #[.slice B ps2.length q] 58)).cell? ⟨w.heap.size + 1 + 1 + 1 + 1, 3, none⟩ = some (.int .i64 0) := by go_simp
  have v3 : ((w3.setCell ⟨w1.heap.size, 3, none⟩ (.int .i64 tg)).alloc (.cells #[.slice B ps2.length q] 58)).frozen? ⟨w.heap.size + 1 + 1 + 1 + 1, 3, none⟩ = false := by go_simp
  have hW := Lib.hid ((HB3.out.setCell (p := ⟨w1.heap.size, 3, none⟩) (by simp; omega) (.int .i64 tg)).alloc (by simp; omega) (.cells #[.slice B ps2.length q] 58))
  have hO := Lib.hid ((ownsRow_setCell_below HO3.out (a := ⟨w1.heap.size, 3, none⟩) (by simp; omega) (.int .i64 tg)).alloc (.cells #[.slice B ps2.length q] 58))
  have hsz : w3.heap.size < ((w3.setCell ⟨w1.heap.size, 3, none⟩ (.int .i64 tg)).alloc (.cells #[.slice B ps2.length q] 58)).heap.size := by simp
  clear b0 b1 c0 c1 c2 c3 d0 d1 d2 d3 zg0 zg1 zg2 zg3 zf0 zf1 zf2 zf3 BC1 BF1 BC2 BF2 BCP BFP HI HM HBD HR HB1 HB2
  generalize ((w3.setCell ⟨w1.heap.size, 3, none⟩ (.int .i64 tg)).alloc (.cells #[.slice B ps2.length q] 58)) = W at *
  have k1 : w3.heap.size < W.heap.size := hsz
  have k2 : w1.heap.size < W.heap.size := by omega
  have k3 : w.heap.size + 1 + 1 + 1 < W.heap.size := by omega
  have k4 : w.heap.size + 1 + 1 + 1 + 1 < W.heap.size := by omega
  have HB3' := HB3
  go_region_held3 (fun w' => w'.cell? ⟨w3.heap.size, 0, none⟩ = some (.slice B ps2.length q) ∧ w'.cell? ⟨w1.heap.size, 0, none⟩ = some (.int .i64 cl) ∧ w'.cell? ⟨w1.heap.size, 1, none⟩ = some (.int .i64 id) ∧ w'.cell? ⟨w1.heap.size, 2, none⟩ = some (.int .i64 am) ∧ w'.cell? ⟨w1.heap.size, 3, none⟩ = some (.int .i64 tg)) (go_keep) (fail)
  all_goals
    go_wp2
    refine bodyPost_ret (v := .tuple #[.agg #[.slice B ps2.length q], .agg #[.int .i64 cl, .int .i64 id, .int .i64 am, .int .i64 tg], .bool true]) (by simp [results, Tryd.results33, go_sem, t0, u0, u1, u2, u3]) rfl ⟨B, q, rfl, ?_, ?_⟩
    · exact Orc.own_mono (Orc.own_after (ownsRow_setCell_below (ownsRow_setCell_below (ownsRow_setCell_below (ownsRow_setCell_below (ownsRow_setCell_below hO.out (a := ⟨w.heap.size + 1 + 1 + 1, 0, none⟩) (by simp; omega) _) (a := ⟨w.heap.size + 1 + 1 + 1 + 1, 0, none⟩) (by simp; omega) _) (a := ⟨w.heap.size + 1 + 1 + 1 + 1, 1, none⟩) (by simp; omega) _) (a := ⟨w.heap.size + 1 + 1 + 1 + 1, 2, none⟩) (by simp; omega) _) (a := ⟨w.heap.size + 1 + 1 + 1 + 1, 3, none⟩) (by simp; omega) _) ((Below.refl _ _).drew)) (Nat.le_of_lt lt0)
    · exact (((((hW.out.setCell (p := ⟨w.heap.size + 1 + 1 + 1, 0, none⟩) (by simp; omega) _).setCell (p := ⟨w.heap.size + 1 + 1 + 1 + 1, 0, none⟩) (by simp; omega) _).setCell (p := ⟨w.heap.size + 1 + 1 + 1 + 1, 1, none⟩) (by simp; omega) _).setCell (p := ⟨w.heap.size + 1 + 1 + 1 + 1, 2, none⟩) (by simp; omega) _).setCell (p := ⟨w.heap.size + 1 + 1 + 1 + 1, 3, none⟩) (by simp; omega) _).drew
end Go.Proofs.YtccjcdecpgigpaaDoor.Met
