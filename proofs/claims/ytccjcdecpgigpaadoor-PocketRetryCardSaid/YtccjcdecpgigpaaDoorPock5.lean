/- The contract of pocketAt. -/
import Derived.Test.YtccjcdecpgigpaaDoorPock4
namespace Go.Proofs.YtccjcdecpgigpaaDoor.Pock
open Go Go.RowKit Go.Proofs.YtccjcdecpgigpaaDoor.Base Go.Proofs.YtccjcdecpgigpaaDoor.Met Go.Proofs.YtccjcdecpgigpaaDoor.Win Go.Proofs.YtccjcdecpgigpaaDoor.Cell Go.Proofs.YtccjcdecpgigpaaDoor.Orc Go.Proofs.YtccjcdecpgigpaaDoor.Tok
set_option linter.unusedVariables false
set_option linter.unusedSimpArgs false
set_option maxRecDepth 20000
/-- A state between two steps. -/
def PRel (me : Int) (l : List Tk) (w : World) (mm : Nat) (b i : Value) (wr : World) : Prop :=
  ∃ (k : Nat) (c : List UInt32) (B : Option Addr) (p : Nat) (O : Option Addr) (oq : Nat) (m : Mt) (ps : List Pr), mm + k = l.length ∧ k ≤ 12 ∧ k ≤ l.length ∧ i = .int .i64 k ∧ b = .slice B c.length p ∧ (m, ps) = pockS me (l.take k) ∧ Pk c m ∧ PInv me k (m, ps) ∧
    OwW (w.heap.size + 2) wr B p c ∧ Cs wr (w.heap.size + 1) [.slice O ps.length oq] ∧ OwPr (w.heap.size + 2) wr O oq ps ∧ Cs wr w.heap.size [.slice none 0 0] ∧ Below w.heap.size w wr
theorem moved_nil {c : List UInt32} {s : Nat} {old next : Mt} (h : movedW c s old next = []) (hk : Pk c old) : Pk c next := by
  unfold movedW at h
  cases he : eqM old next with
  | true => rw [← (eqM_iff old next).1 he]; exact hk
  | false => rw [he, if_neg (by simp)] at h; have := congrArg List.length h; rw [storeW_len] at this; simp at this
theorem put1 {w : World} {b : Nat} {v0 x0 : Value} (h : Cs w b [v0]) : Cs (w.setCell ⟨b, 0, none⟩ x0) b [x0] := Cs.put h (by simp) rfl
theorem put4 {w : World} {b : Nat} {v0 v1 v2 v3 x0 x1 x2 x3 : Value} (h : Cs w b [v0, v1, v2, v3]) : Cs ((((w.setCell ⟨b, 0, none⟩ x0).setCell ⟨b, 1, none⟩ x1).setCell ⟨b, 2, none⟩ x2).setCell ⟨b, 3, none⟩ x3) b [x0, x1, x2, x3] :=
  Cs.put (i := 3) (Cs.put (i := 2) (Cs.put (i := 1) (Cs.put (i := 0) h (by simp) rfl) (by simp) rfl) (by simp) rfl) (by simp) rfl
set_option maxHeartbeats 16000000 in
theorem pocketAt_any (me : Int) (l : List Tk) (L : Option Addr) (lq : Nat) (w : World) (h0 : 0 ≤ me) (h1 : me < 50) (hl : RdE 4 (fun t : Tk => t.vals.toList) w L l) (hok : ∀ t ∈ l, t.ok) :
    Calls Tryd.prog 32 #[.int .i64 me, .slice L l.length lq] w fun e w' => ∃ (c : List UInt32) (B : Option Addr) (p : Nat) (O : Option Addr) (oq : Nat), e = .returned (.tuple #[.slice B c.length p, .agg #[.slice O (pockS me (l.take 12)).2.length oq], .bool true]) ∧ Pk c (pockS me (l.take 12)).1 ∧ OwW w.heap.size w' B p c ∧ OwPr w.heap.size w' O oq (pockS me (l.take 12)).2 ∧ Below w.heap.size w w' := by
  have HL := Lib.hid hl
  have HOK := Lib.hid hok
  have hlm := hl.1
  have HMK := Lib.hid (fun W => Make_any me W h0 h1)
  clear hl hok
  go_enter Tryd.func32, Tryd.ntmps32
  go_wp2_with (fail)
  go_at_call 23
  refine (HMK.out _).mono ?_
  rintro e w1 ⟨B0, p0, rfl, ho, hb⟩
  have hwz1 := hb.size
  try simp at hwz1
  have HBw1 : Hid (Below w.heap.size w w1) := Lib.hid (below_then' (by repeat (first | with_reducible exact Below.refl _ _ | with_reducible refine blw_alloc ?_ _ | with_reducible refine Below.drew ?_ | with_reducible refine blw_step ?_ _ | with_reducible refine Below.setCell (p := ⟨_, _, none⟩) ?_ (by first | exact Nat.le_refl _ | (simp; done) | (simp; omega) | omega) _)) hb)
  have Crw1 : Hid (Cs w1 (w.heap.size) [.slice none 0 0]) := Lib.hid ((show Cs _ (w.heap.size) [.slice none 0 0] from (by (repeat (first | (with_reducible refine Cs.new ?_; focus (first | rfl | (simp; done) | omega)) | with_reducible refine Cs.alloc ?_ _ | with_reducible refine Cs.drew ?_ | with_reducible refine Cs.drewN ?_ _ | (with_reducible refine Cs.other ?_ ?_ _; focus (first | omega | (simp; done) | (simp; omega))) | with_reducible apply Cs.put)) <;> first | rfl | (simp; done))).after hb)
  have Cow1 : Hid (Cs w1 (w.heap.size + 1) [.slice none 0 0]) := Lib.hid ((show Cs _ (w.heap.size + 1) [.slice none 0 0] from (by (repeat (first | (with_reducible refine Cs.new ?_; focus (first | rfl | (simp; done) | omega)) | with_reducible refine Cs.alloc ?_ _ | with_reducible refine Cs.drew ?_ | with_reducible refine Cs.drewN ?_ _ | (with_reducible refine Cs.other ?_ ?_ _; focus (first | omega | (simp; done) | (simp; omega))) | with_reducible apply Cs.put)) <;> first | rfl | (simp; done))).after hb)
  have HO := Lib.hid (Win.own_mono ho (show w.heap.size + 2 ≤ _ by simp))
  clear ho
  clear hb
  have lrw1 := Crw1.out.1
  have low1 := Cow1.out.1
  go_wp2_with fail
  go_loopg [8, 10] l.length (fun mm b i wr => PRel me l w mm b i wr)
  case atStart => exact ⟨0, makeL me, B0, p0, none, 0, beginM me, [], by omega, by omega, by omega, rfl, rfl, rfl, make_pk me h0 h1, PInv.begin me h0 h1, HO.out, Cow1.out, World.ownsRow_nil _ _ _ _, Crw1.out, HBw1.out⟩
  case round =>
    obtain ⟨k, c, B, p, O, oq, m, ps, hmm, hk12, hkl, rfl, rfl, hS, hpk, hin, hw, ho, hp, hr, hbl⟩ := hrel
    have HB := Lib.hid hbl
    have HW := Lib.hid hw
    have HP := Lib.hid hp
    have Cowr := Lib.hid ho
    have Crwr := Lib.hid hr
    have HS := Lib.hid hS
    have HPK := Lib.hid hpk
    have HIN := Lib.hid hin
    have hbs := HB.out.size
    have lor := Cowr.out.1
    have lrr := Crwr.out.1
    clear HO Cow1 Crw1 HBw1 hbl hw hp ho hr hS hpk hin
    try clear hw1z1
    try clear hwz1
    by_cases hlt : k < l.length ∧ k < 12
    · obtain ⟨hk1, hk2⟩ := hlt
      have hki : (k : Int) < (l.length : Int) := by omega
      have hk0 : (0 : Int) ≤ (k : Int) := by omega
      have hk3 : (k : Int) < 12 := by omega
      obtain ⟨x, hx⟩ : ∃ x, x = l[k] := ⟨_, rfl⟩
      have xok : x.ok := by rw [hx]; exact HOK.out _ (List.getElem_mem hk1)
      have hlt0 := lrr
      have hcap := own_cap HW.out
      have hnil := HP.out.nil_of
      have HBT := Lib.hid (fun W hW => Boot_any c m B p W hW HPK.out hcap)
      obtain ⟨lm1, lm2⟩ := HIN.out.lim
      have hkept := HIN.out.kept
      have hkl2 := hkept.len
      have HSD := Lib.hid (fun W hW => sold_any ps O oq m x W hW hkept.ok hkept.good hnil lm1 lm2 xok (.inr (by simp only at hkl2; omega)))
      have hiss := HIN.out.iss (by omega) x
      have hgt := soldT_good ps m.me m.rev x hkept.good
      have hst := HIN.out.step (by omega) x
      have hsn : (stepP (m, ps) x) = pockS me (l.take (k + 1)) := by rw [List.take_succ_eq_append_getElem hk1, pockS_snoc, ← HS.out, ← hx]
      unfold psOf at hiss
      unfold stepP psOf tkOf at hst hsn
      simp only at HSD hiss hst hsn
      generalize issL ps m.me m.rev (bodyI (Met.madeT x)) (Met.madeT x).tag = ps2 at *
      generalize soldT ps m.me m.rev x = T at *
      have HF := Lib.hid (fun W => format_yes T hgt W)
      have hfl := fmtS_list T
      obtain ⟨pf1, pf2⟩ := parse_fmt hgt
      obtain ⟨s, hs⟩ := HPK.out.newer
      have hs2 := newer_lt hs
      have HK := Lib.hid (fun D dq W hW hR => Keyed_any c m ps2 (fmtS T) s B D p dq W hW HPK.out hs hcap hR hiss.ok hiss.good)
      have hke : keyedR m ps2 (fmtS T).data.toList = keyR m ps2 T := by unfold keyedR; rw [hfl, if_pos pf1, pf2]
      rw [hke] at HK
      have hpk2 := moved_pk HPK.out hs hst.ok hst.may
      have hin2 := moved_in (old := m) (next := (keyR m ps2 T).1) HPK.out.len hs2
      have hln := moved_len c s m (keyR m ps2 T).1
      have hnl := fun h => moved_nil (s := s) (next := (keyR m ps2 T).1) h HPK.out
      have hcl := HPK.out.len
      have HAP := Lib.hid (fun G g W hc hw hg => apply_all c (movedW c s m (keyR m ps2 T).1) B G p g W hc hw (by omega) (by omega) (by omega) hg hin2)
      generalize movedW c s m (keyR m ps2 T).1 = MW at *
      generalize keyR m ps2 T = K at *
      generalize fmtS T = S at *
      have hsn2 := Lib.hid hsn
      have hst2 := Lib.hid hst
      have hpk3 := Lib.hid hpk2
      have hnl2 := Lib.hid hnl
      have HCL := Lib.hid hcl
      obtain ⟨ad, hL, x0, x1, x2, x3⟩ := at4 HL.out k hk1 (.int .i64 x.cl) (.int .i64 x.id) (.int .i64 x.am) (.int .i64 x.tag) (by rw [← hx]; rfl)
      subst hL
      have hadl := World.block_lt_of_cell? _ _ x0
      have HX := Lib.hid (fun (W : World) (hW : Below w.heap.size w W) => (⟨(hW.cell hadl).trans x0, (hW.cell (p := ⟨(ad.add (k * 4)).block, (ad.add (k * 4)).off + 1, none⟩) hadl).trans x1, (hW.cell (p := ⟨(ad.add (k * 4)).block, (ad.add (k * 4)).off + 2, none⟩) hadl).trans x2, (hW.cell (p := ⟨(ad.add (k * 4)).block, (ad.add (k * 4)).off + 3, none⟩) hadl).trans x3⟩ : W.cell? (ad.add (k * 4)) = some (.int .i64 x.cl) ∧ W.cell? ⟨(ad.add (k * 4)).block, (ad.add (k * 4)).off + 1, none⟩ = some (.int .i64 x.id) ∧ W.cell? ⟨(ad.add (k * 4)).block, (ad.add (k * 4)).off + 2, none⟩ = some (.int .i64 x.am) ∧ W.cell? ⟨(ad.add (k * 4)).block, (ad.add (k * 4)).off + 3, none⟩ = some (.int .i64 x.tag)))
      clear x0 x1 x2 x3
      clear hsn hst hpk2 hnl hcl hin2 hke pf1 pf2 hfl hgt hs hs2 hiss hkept hkl2 lm1 lm2 hnil hx xok
      obtain ⟨a0, a1, a2, a3, a4, a5, a6⟩ := m
      obtain ⟨xcl, xid, xam, xtag⟩ := x
      obtain ⟨tcl, tid, tam, ttag⟩ := T
      unfold Mt.vals at HBT HSD
      unfold Tk.vals at HSD HF
      simp only at HBT HSD HF HX
      go_wp2_with (fail)
      go_at_call 26
      refine (HBT.out _ HW.out.read).mono ?_
      rintro e v1 ⟨rfl, hb⟩
      have hvz1 := hb.size
      try simp at hvz1
      have HBv1 : Hid (Below w.heap.size w v1) := Lib.hid (below_then' (by repeat (first | with_reducible exact HB.out | with_reducible refine blw_alloc ?_ _ | with_reducible refine Below.drew ?_ | with_reducible refine blw_step ?_ _ | with_reducible refine Below.setCell (p := ⟨_, _, none⟩) ?_ (by first | exact Nat.le_refl _ | (simp; done) | (simp; omega) | omega) _)) hb)
      have Cov1 : Hid (Cs v1 (w.heap.size + 1) [.slice O ps.length oq]) := Lib.hid ((show Cs _ (w.heap.size + 1) [.slice O ps.length oq] from (by (repeat (first | with_reducible exact Cowr.out | (with_reducible refine Cs.new ?_; focus (first | rfl | (simp; done) | omega)) | with_reducible refine Cs.alloc ?_ _ | with_reducible refine Cs.drew ?_ | with_reducible refine Cs.drewN ?_ _ | (with_reducible refine Cs.other ?_ ?_ _; focus (first | omega | (simp; done) | (simp; omega))) | with_reducible apply Cs.put)) <;> first | rfl | (simp; done))).after hb)
      have hwv1 := Lib.hid hb
      clear hb
      have lov1 := Cov1.out.1
      have hsv1 := HBv1.out.size
      go_upto_region 11 with fail
      obtain ⟨u, hu⟩ : ∃ u, u = v1.alloc (.cells #[.int .i64 a0, .int .i64 a1, .int .i64 a2, .int .i64 a3, .int .u64 (a4 : Int), .int .i64 a5, .int .i64 a6] 40) := ⟨_, rfl⟩
      have HBu : Hid (Below w.heap.size w u) := Lib.hid (by rw [hu]; exact blw_alloc HBv1.out _)
      have Cou : Hid (Cs u (w.heap.size + 1) [.slice O ps.length oq]) := Lib.hid (by rw [hu]; exact Cs.alloc Cov1.out _)
      have Cmu : Hid (Cs u v1.heap.size [.int .i64 a0, .int .i64 a1, .int .i64 a2, .int .i64 a3, .int .u64 (a4 : Int), .int .i64 a5, .int .i64 a6]) := Lib.hid (by rw [hu]; exact Cs.new rfl)
      have hwu : Below wr.heap.size wr u := by rw [hu]; exact blw_alloc hwv1.out _
      have HPu := Lib.hid (HP.out.after hwu)
      have HWu := Lib.hid (Win.own_after HW.out hwu)
      have Cru := Lib.hid (Crwr.out.after hwu)
      rw [← hu]
      clear hu hwu Cov1 Crwr Cowr HP HW
      have lou := Cou.out.1
      have lmu := Cmu.out.1
      have ou0 := (Cou.out.at 0 rfl).1
      have mu0 := (Cmu.out.at 0 rfl).1
      have mu1 := (Cmu.out.at 1 rfl).1
      have mu2 := (Cmu.out.at 2 rfl).1
      have mu3 := (Cmu.out.at 3 rfl).1
      have mu4 := (Cmu.out.at 4 rfl).1
      have mu5 := (Cmu.out.at 5 rfl).1
      have mu6 := (Cmu.out.at 6 rfl).1
      obtain ⟨x0, x1, x2, x3⟩ := HX.out u HBu.out
      clear HX
      go_cut [13, 14, 15] (fun s13 s14 s15 wx => ∃ (p13 p14 : Nat) (D : Option Addr) (dq : Nat), s13 = .pointer (some ⟨p13, 0, none⟩) ∧ s14 = .pointer (some ⟨p14, 0, none⟩) ∧ s15 = .bool true ∧ u.heap.size ≤ p13 ∧ u.heap.size ≤ p14 ∧ Cs wx p13 [.slice D ps2.length dq] ∧ Cs wx p14 [.int .i64 tcl, .int .i64 tid, .int .i64 tam, .int .i64 ttag] ∧ OwPr u.heap.size wx D dq ps2 ∧ Below u.heap.size u wx)
      case first =>
        have hadu := World.block_lt_of_cell? u _ x0
        have HXX := Lib.hid (fun (W : World) (hW : Below u.heap.size u W) => (⟨(hW.cell hadu).trans x0, (hW.cell (p := ⟨(ad.add (k * 4)).block, (ad.add (k * 4)).off + 1, none⟩) hadu).trans x1, (hW.cell (p := ⟨(ad.add (k * 4)).block, (ad.add (k * 4)).off + 2, none⟩) hadu).trans x2, (hW.cell (p := ⟨(ad.add (k * 4)).block, (ad.add (k * 4)).off + 3, none⟩) hadu).trans x3⟩ : W.cell? (ad.add (k * 4)) = some (.int .i64 xcl) ∧ W.cell? ⟨(ad.add (k * 4)).block, (ad.add (k * 4)).off + 1, none⟩ = some (.int .i64 xid) ∧ W.cell? ⟨(ad.add (k * 4)).block, (ad.add (k * 4)).off + 2, none⟩ = some (.int .i64 xam) ∧ W.cell? ⟨(ad.add (k * 4)).block, (ad.add (k * 4)).off + 3, none⟩ = some (.int .i64 xtag)))
        have ne0 : w.heap.size ≠ u.heap.size := by omega
        have en0 : u.heap.size ≠ w.heap.size := by omega
        have ne1 : w.heap.size ≠ u.heap.size + 1 := by omega
        have en1 : u.heap.size + 1 ≠ w.heap.size := by omega
        have ne2 : w.heap.size + 1 ≠ u.heap.size := by omega
        have en2 : u.heap.size ≠ w.heap.size + 1 := by omega
        have ne3 : w.heap.size + 1 ≠ u.heap.size + 1 := by omega
        have en3 : u.heap.size + 1 ≠ w.heap.size + 1 := by omega
        have ne4 : v1.heap.size ≠ u.heap.size := by omega
        have en4 : u.heap.size ≠ v1.heap.size := by omega
        have ne5 : v1.heap.size ≠ u.heap.size + 1 := by omega
        have en5 : u.heap.size + 1 ≠ v1.heap.size := by omega
        have ne6 : (ad.add (k * 4)).block ≠ u.heap.size := by omega
        have en6 : u.heap.size ≠ (ad.add (k * 4)).block := by omega
        have ne7 : (ad.add (k * 4)).block ≠ u.heap.size + 1 := by omega
        have en7 : u.heap.size + 1 ≠ (ad.add (k * 4)).block := by omega
        go_region_held3 (fun w' => w'.cell? ⟨w.heap.size + 1, 0, none⟩ = some (.slice O ps.length oq) ∧ w'.cell? ⟨v1.heap.size, 0, none⟩ = some (.int .i64 a0) ∧ w'.cell? ⟨v1.heap.size, 1, none⟩ = some (.int .i64 a1) ∧ w'.cell? ⟨v1.heap.size, 2, none⟩ = some (.int .i64 a2) ∧ w'.cell? ⟨v1.heap.size, 3, none⟩ = some (.int .i64 a3) ∧ w'.cell? ⟨v1.heap.size, 4, none⟩ = some (.int .u64 (a4 : Int)) ∧ w'.cell? ⟨v1.heap.size, 5, none⟩ = some (.int .i64 a5) ∧ w'.cell? ⟨v1.heap.size, 6, none⟩ = some (.int .i64 a6) ∧ w'.cell? (ad.add (k * 4)) = some (.int .i64 xcl) ∧ w'.cell? ⟨(ad.add (k * 4)).block, (ad.add (k * 4)).off + 1, none⟩ = some (.int .i64 xid) ∧ w'.cell? ⟨(ad.add (k * 4)).block, (ad.add (k * 4)).off + 2, none⟩ = some (.int .i64 xam) ∧ w'.cell? ⟨(ad.add (k * 4)).block, (ad.add (k * 4)).off + 3, none⟩ = some (.int .i64 xtag)) (go_keep) ((go_at_call 33; refine (HSD.out _ (HPu.out.read.below (by repeat (first | with_reducible exact Below.refl _ _ | with_reducible refine Base.blw_alloc ?_ _ | with_reducible refine Below.drew ?_)))).mono ?_; rintro e v2 ⟨D, dq, rfl, ho, hb⟩; have HRAW := Lib.hid hb; have HBX : Hid (Below u.heap.size u v2) := Lib.hid (below_then' (by repeat (first | with_reducible exact Below.refl _ _ | with_reducible refine Base.blw_alloc ?_ _ | with_reducible refine Below.drew ?_)) hb); have hsx := hb.size; (try simp at hsx); have q0 := ((Cou.out.after HBX.out).at 0 rfl).1; have mq0 := ((Cmu.out.after HBX.out).at 0 rfl).1; have mq1 := ((Cmu.out.after HBX.out).at 1 rfl).1; have mq2 := ((Cmu.out.after HBX.out).at 2 rfl).1; have mq3 := ((Cmu.out.after HBX.out).at 3 rfl).1; have mq4 := ((Cmu.out.after HBX.out).at 4 rfl).1; have mq5 := ((Cmu.out.after HBX.out).at 5 rfl).1; have mq6 := ((Cmu.out.after HBX.out).at 6 rfl).1; obtain ⟨y0, y1, y2, y3⟩ := HXX.out v2 HBX.out; (first | (refine (fun (AP : Hid (Cs v2 (u.heap.size) [.slice none 0 0])) => ?_) (Lib.hid (Cs.after ?_ hb)); rotate_left; (focus ((repeat (first | (with_reducible refine Cs.new ?_; focus (first | rfl | (simp; done) | omega)) | with_reducible refine Cs.alloc ?_ _ | with_reducible refine Cs.drew ?_ | with_reducible refine Cs.drewN ?_ _ | (with_reducible refine Cs.other ?_ ?_ _; focus (first | omega | (simp; done) | (simp; omega))) | with_reducible apply Cs.put)) <;> first | rfl | (simp; done))); have APz0 := (AP.out.at 0 rfl).1; have APy0 := (AP.out.at 0 rfl).2; have lAP := AP.out.1) | skip); (first | (refine (fun (AQ : Hid (Cs v2 (u.heap.size + 1) [.slice none 0 0])) => ?_) (Lib.hid (Cs.after ?_ hb)); rotate_left; (focus ((repeat (first | (with_reducible refine Cs.new ?_; focus (first | rfl | (simp; done) | omega)) | with_reducible refine Cs.alloc ?_ _ | with_reducible refine Cs.drew ?_ | with_reducible refine Cs.drewN ?_ _ | (with_reducible refine Cs.other ?_ ?_ _; focus (first | omega | (simp; done) | (simp; omega))) | with_reducible apply Cs.put)) <;> first | rfl | (simp; done))); have AQz0 := (AQ.out.at 0 rfl).1; have AQy0 := (AQ.out.at 0 rfl).2; have lAQ := AQ.out.1) | skip); (first | (refine (fun (BP : Hid (Cs v2 (u.heap.size) [.int .i64 0, .int .i64 0, .int .i64 0, .int .i64 0])) => ?_) (Lib.hid (Cs.after ?_ hb)); rotate_left; (focus ((repeat (first | (with_reducible refine Cs.new ?_; focus (first | rfl | (simp; done) | omega)) | with_reducible refine Cs.alloc ?_ _ | with_reducible refine Cs.drew ?_ | with_reducible refine Cs.drewN ?_ _ | (with_reducible refine Cs.other ?_ ?_ _; focus (first | omega | (simp; done) | (simp; omega))) | with_reducible apply Cs.put)) <;> first | rfl | (simp; done))); have BPz0 := (BP.out.at 0 rfl).1; have BPy0 := (BP.out.at 0 rfl).2; have BPz1 := (BP.out.at 1 rfl).1; have BPy1 := (BP.out.at 1 rfl).2; have BPz2 := (BP.out.at 2 rfl).1; have BPy2 := (BP.out.at 2 rfl).2; have BPz3 := (BP.out.at 3 rfl).1; have BPy3 := (BP.out.at 3 rfl).2; have lBP := BP.out.1) | skip); (first | (refine (fun (BQ : Hid (Cs v2 (u.heap.size + 1) [.int .i64 0, .int .i64 0, .int .i64 0, .int .i64 0])) => ?_) (Lib.hid (Cs.after ?_ hb)); rotate_left; (focus ((repeat (first | (with_reducible refine Cs.new ?_; focus (first | rfl | (simp; done) | omega)) | with_reducible refine Cs.alloc ?_ _ | with_reducible refine Cs.drew ?_ | with_reducible refine Cs.drewN ?_ _ | (with_reducible refine Cs.other ?_ ?_ _; focus (first | omega | (simp; done) | (simp; omega))) | with_reducible apply Cs.put)) <;> first | rfl | (simp; done))); have BQz0 := (BQ.out.at 0 rfl).1; have BQy0 := (BQ.out.at 0 rfl).2; have BQz1 := (BQ.out.at 1 rfl).1; have BQy1 := (BQ.out.at 1 rfl).2; have BQz2 := (BQ.out.at 2 rfl).1; have BQy2 := (BQ.out.at 2 rfl).2; have BQz3 := (BQ.out.at 3 rfl).1; have BQy3 := (BQ.out.at 3 rfl).2; have lBQ := BQ.out.1) | skip); have ne8 : w.heap.size ≠ v2.heap.size := (by omega); have en8 : v2.heap.size ≠ w.heap.size := (by omega); have ne9 : w.heap.size ≠ v2.heap.size + 1 := (by omega); have en9 : v2.heap.size + 1 ≠ w.heap.size := (by omega); have ne10 : w.heap.size + 1 ≠ v2.heap.size := (by omega); have en10 : v2.heap.size ≠ w.heap.size + 1 := (by omega); have ne11 : w.heap.size + 1 ≠ v2.heap.size + 1 := (by omega); have en11 : v2.heap.size + 1 ≠ w.heap.size + 1 := (by omega); have ne12 : v1.heap.size ≠ v2.heap.size := (by omega); have en12 : v2.heap.size ≠ v1.heap.size := (by omega); have ne13 : v1.heap.size ≠ v2.heap.size + 1 := (by omega); have en13 : v2.heap.size + 1 ≠ v1.heap.size := (by omega); have ne14 : (ad.add (k * 4)).block ≠ v2.heap.size := (by omega); have en14 : v2.heap.size ≠ (ad.add (k * 4)).block := (by omega); have ne15 : (ad.add (k * 4)).block ≠ v2.heap.size + 1 := (by omega); have en15 : v2.heap.size + 1 ≠ (ad.add (k * 4)).block := (by omega); (try have ne16 : u.heap.size ≠ v2.heap.size := (by omega)); (try have en16 : v2.heap.size ≠ u.heap.size := (by omega)); (try have ne17 : u.heap.size ≠ v2.heap.size + 1 := (by omega)); (try have en17 : v2.heap.size + 1 ≠ u.heap.size := (by omega)); (try have ne18 : u.heap.size + 1 ≠ v2.heap.size := (by omega)); (try have en18 : v2.heap.size ≠ u.heap.size + 1 := (by omega)); (try have ne19 : u.heap.size + 1 ≠ v2.heap.size + 1 := (by omega)); (try have en19 : v2.heap.size + 1 ≠ u.heap.size + 1 := (by omega)); have nf0 : u.heap.size ≠ u.heap.size + 1 := (by omega); have nf1 : u.heap.size + 1 ≠ u.heap.size := (by omega); have nf2 : v2.heap.size ≠ v2.heap.size + 1 := (by omega); have nf3 : v2.heap.size + 1 ≠ v2.heap.size := (by omega); have hsy := HBX.out.size; (first | (refine (fun (HO2 : Hid (v2.ownsRow (u.heap.size + 2) 211 4 (.slice D ps2.length dq) ps2.length (ps2.flatMap Pr.enc))) => ?_) (Lib.hid (own_less ho ?_)); rotate_left; (focus (simp; done))) | skip); (first | (refine (fun (HO1 : Hid (v2.ownsRow (u.heap.size + 1) 211 4 (.slice D ps2.length dq) ps2.length (ps2.flatMap Pr.enc))) => ?_) (Lib.hid (own_less ho ?_)); rotate_left; (focus (first | (simp; done) | (simp; omega)))) | skip); have HO0 : Hid (v2.ownsRow u.heap.size 211 4 (.slice D ps2.length dq) ps2.length (ps2.flatMap Pr.enc)) := Lib.hid (own_less ho (show u.heap.size ≤ _ by (first | exact Nat.le_refl _ | (simp; done) | (simp; omega)))); clear ho hb))
        all_goals go_wp2_with fail
        all_goals go_meet
        all_goals ((try clear ne0); (try clear en0); (try clear ne1); (try clear en1); (try clear ne2); (try clear en2); (try clear ne3); (try clear en3); (try clear ne4); (try clear en4); (try clear ne5); (try clear en5); (try clear ne6); (try clear en6); (try clear ne7); (try clear en7); (try clear ne8); (try clear en8); (try clear ne9); (try clear en9); (try clear ne10); (try clear en10); (try clear ne11); (try clear en11); (try clear ne12); (try clear en12); (try clear ne13); (try clear en13); (try clear ne14); (try clear en14); (try clear ne15); (try clear en15); (try clear ne16); (try clear en16); (try clear ne17); (try clear en17); (try clear ne18); (try clear en18); (try clear ne19); (try clear en19); clear nf0 nf1 nf2 nf3)
        all_goals refine ⟨_, _, D, dq, rfl, rfl, rfl, (by (first | exact Nat.le_refl _ | (simp; done) | (simp; omega) | omega)), (by (first | exact Nat.le_refl _ | (simp; done) | (simp; omega) | omega)), ?_, ?_, ?_, ?_⟩
        all_goals first | (with_reducible refine id (α := Cs _ _ _) ?_; (repeat (first | with_reducible exact AP.out | with_reducible exact AQ.out | with_reducible exact BP.out | with_reducible exact BQ.out | with_reducible apply put4 | with_reducible apply put1 | (with_reducible refine Cs.new ?_; focus (first | rfl | (simp; done) | omega)) | with_reducible refine Cs.alloc ?_ _ | with_reducible refine Cs.drew ?_ | with_reducible refine Cs.drewN ?_ _ | (with_reducible refine Cs.other ?_ ?_ _; focus (first | omega | (simp; done) | (simp; omega))))); done) | (with_reducible refine id (α := OwPr _ _ _ _ _) ?_; unfold OwPr; first | (refine own_less (B := u.heap.size + 2) ?_ (by omega); (repeat (first | with_reducible exact HO2.out | with_reducible refine own_below ?_ (by first | omega | (simp; done) | (simp; omega)) _ _ | with_reducible refine World.ownsRow.alloc ?_ _)); done) | (refine own_less (B := u.heap.size + 1) ?_ (by omega); (repeat (first | with_reducible exact HO1.out | with_reducible refine own_below ?_ (by first | omega | (simp; done) | (simp; omega)) _ _ | with_reducible refine World.ownsRow.alloc ?_ _)); done) | ((repeat (first | with_reducible exact HO0.out | with_reducible refine own_below ?_ (by first | omega | (simp; done) | (simp; omega)) _ _ | with_reducible refine World.ownsRow.alloc ?_ _)); done)) | (with_reducible refine id (α := Below _ _ _) ?_; exact (by repeat (first | with_reducible exact HBX.out | with_reducible refine blw_alloc ?_ _ | with_reducible refine Below.drew ?_ | with_reducible refine blw_step ?_ _ | with_reducible refine Below.setCell (p := ⟨_, _, none⟩) ?_ (by first | exact Nat.le_refl _ | (simp; done) | (simp; omega) | omega) _)))
      case rest =>
        obtain ⟨p13, p14, D, dq, rfl, rfl, rfl, hb13, hb14, hc13, hc14, hod, hbw⟩ := hcut
        have HBc : Hid (Below w.heap.size w wc) := Lib.hid (below_then' HBu.out hbw)
        have Cowc := Lib.hid (Cou.out.after hbw)
        have HWc := Lib.hid (Win.own_after HWu.out hbw)
        have Crwc := Lib.hid (Cru.out.after hbw)
        have HDc := Lib.hid hod
        have Cawc := Lib.hid hc13
        have Ctwc := Lib.hid hc14
        have hsu := HBu.out.size
        have hsw := hbw.size
        clear hbw hod hc13 hc14 HPu HWu Cou Cru Cmu HBu HSD HBT hwv1 HBv1 x0 x1 x2 x3 ou0 mu0 mu1 mu2 mu3 mu4 mu5 mu6
        have lowc := Cowc.out.1
        have lawc := Cawc.out.1
        have ltwc := Ctwc.out.1
        have tg0 := (Ctwc.out.at 0 rfl).1
        have tg1 := (Ctwc.out.at 1 rfl).1
        have tg2 := (Ctwc.out.at 2 rfl).1
        have tg3 := (Ctwc.out.at 3 rfl).1
        go_wp2_with (fail)
        go_at_call 14
        refine (HF.out _).mono ?_
        rintro e v3 ⟨rfl, hb⟩
        have hvz3 := hb.size
        try simp at hvz3
        have HBv3 : Hid (Below w.heap.size w v3) := Lib.hid (below_then' (by repeat (first | with_reducible exact HBc.out | with_reducible refine blw_alloc ?_ _ | with_reducible refine Below.drew ?_ | with_reducible refine blw_step ?_ _ | with_reducible refine Below.setCell (p := ⟨_, _, none⟩) ?_ (by first | exact Nat.le_refl _ | (simp; done) | (simp; omega) | omega) _)) hb)
        have Cov3 : Hid (Cs v3 (w.heap.size + 1) [.slice O ps.length oq]) := Lib.hid ((show Cs _ (w.heap.size + 1) [.slice O ps.length oq] from (by (repeat (first | with_reducible exact Cowc.out | (with_reducible refine Cs.new ?_; focus (first | rfl | (simp; done) | omega)) | with_reducible refine Cs.alloc ?_ _ | with_reducible refine Cs.drew ?_ | with_reducible refine Cs.drewN ?_ _ | (with_reducible refine Cs.other ?_ ?_ _; focus (first | omega | (simp; done) | (simp; omega))) | with_reducible apply Cs.put)) <;> first | rfl | (simp; done))).after hb)
        have Cav3 : Hid (Cs v3 (p13) [.slice D ps2.length dq]) := Lib.hid ((show Cs _ (p13) [.slice D ps2.length dq] from (by (repeat (first | with_reducible exact Cawc.out | (with_reducible refine Cs.new ?_; focus (first | rfl | (simp; done) | omega)) | with_reducible refine Cs.alloc ?_ _ | with_reducible refine Cs.drew ?_ | with_reducible refine Cs.drewN ?_ _ | (with_reducible refine Cs.other ?_ ?_ _; focus (first | omega | (simp; done) | (simp; omega))) | with_reducible apply Cs.put)) <;> first | rfl | (simp; done))).after hb)
        have HWx := Lib.hid (Win.own_after HWc.out hb)
        have HDx := Lib.hid (HDc.out.after hb)
        have Crx := Lib.hid (Crwc.out.after hb)
        clear tg0 tg1 tg2 tg3 hb
        have lov3 := Cov3.out.1
        have ov3g0 := (Cov3.out.at 0 rfl).1
        have ov3f0 := (Cov3.out.at 0 rfl).2
        have lav3 := Cav3.out.1
        have av3g0 := (Cav3.out.at 0 rfl).1
        go_upto_region 16 with fail
        obtain ⟨u2, hu2⟩ : ∃ u2, u2 = v3.setCell ⟨w.heap.size + 1, 0, none⟩ (.slice D ps2.length dq) := ⟨_, rfl⟩
        have HB2 : Hid (Below w.heap.size w u2) := Lib.hid (by rw [hu2]; exact HBv3.out.setCell (p := ⟨w.heap.size + 1, 0, none⟩) (by show w.heap.size ≤ w.heap.size + 1; omega) _)
        have HW2 : Hid (OwW (w.heap.size + 2) u2 B p c) := Lib.hid (by rw [hu2]; exact own_below HWx.out (by omega) _ _)
        have HD2 : Hid (OwPr (w.heap.size + 2) u2 D dq ps2) := Lib.hid (by rw [hu2]; exact own_less (own_below HDx.out (by omega) _ _) (by omega))
        have Cou2 : Hid (Cs u2 (w.heap.size + 1) [.slice D ps2.length dq]) := Lib.hid (by rw [hu2]; exact put1 Cov3.out)
        have Cru2 : Hid (Cs u2 w.heap.size [.slice none 0 0]) := Lib.hid (by rw [hu2]; exact Cs.other (by simp) Crx.out _)
        rw [← hu2]
        clear hu2 HWx HDx Crx HWc HDc Crwc Cov3 Cav3 Cawc Ctwc Cowc ov3g0 ov3f0 av3g0
        have lou2 := Cou2.out.1
        have og2 := (Cou2.out.at 0 rfl).1
        go_wp2_with (fail)
        go_at_call 24
        refine (HK.out D dq _ HW2.out.read HD2.out.read).mono ?_
        rintro e v4 ⟨G, g, rfl, ho, hb⟩
        have hvz4 := hb.size
        try simp at hvz4
        have HBv4 : Hid (Below w.heap.size w v4) := Lib.hid (below_then' (by repeat (first | with_reducible exact HB2.out | with_reducible refine blw_alloc ?_ _ | with_reducible refine Below.drew ?_ | with_reducible refine blw_step ?_ _ | with_reducible refine Below.setCell (p := ⟨_, _, none⟩) ?_ (by first | exact Nat.le_refl _ | (simp; done) | (simp; omega) | omega) _)) hb)
        have Cov4 : Hid (Cs v4 (w.heap.size + 1) [.slice D ps2.length dq]) := Lib.hid ((show Cs _ (w.heap.size + 1) [.slice D ps2.length dq] from (by (repeat (first | with_reducible exact Cou2.out | (with_reducible refine Cs.new ?_; focus (first | rfl | (simp; done) | omega)) | with_reducible refine Cs.alloc ?_ _ | with_reducible refine Cs.drew ?_ | with_reducible refine Cs.drewN ?_ _ | (with_reducible refine Cs.other ?_ ?_ _; focus (first | omega | (simp; done) | (simp; omega))) | with_reducible apply Cs.put)) <;> first | rfl | (simp; done))).after hb)
        have Crv4 : Hid (Cs v4 (w.heap.size) [.slice none 0 0]) := Lib.hid ((show Cs _ (w.heap.size) [.slice none 0 0] from (by (repeat (first | with_reducible exact Cru2.out | (with_reducible refine Cs.new ?_; focus (first | rfl | (simp; done) | omega)) | with_reducible refine Cs.alloc ?_ _ | with_reducible refine Cs.drew ?_ | with_reducible refine Cs.drewN ?_ _ | (with_reducible refine Cs.other ?_ ?_ _; focus (first | omega | (simp; done) | (simp; omega))) | with_reducible apply Cs.put)) <;> first | rfl | (simp; done))).after hb)
        have HG := Lib.hid ho.read
        have hgc := own_cap ho
        have HW4 : Hid (OwW (w.heap.size + 2) _ B p c) := Lib.hid (Win.own_after HW2.out hb)
        have HD4 := Lib.hid (HD2.out.after hb)
        clear ho
        clear og2 hb
        have lov4 := Cov4.out.1
        have lrv4 := Crv4.out.1
        clear HW2 HD2 HB2 Cou2 Cru2
        by_cases hm0 : MW = []
        · have hz : MW.length = 0 := by rw [hm0]; rfl
          have hpkn := Lib.hid (hnl2.out hm0)
          rw [hz]
          clear hm0 hz hln
          go_wp2_with fail
          go_roundg (l.length - (k + 1))
          case measure => omega
          case rel => exact ⟨k + 1, c, B, p, D, dq, K.1, ps2, by omega, by omega, by omega, by go_num, rfl, hsn2.out, hpkn.out, hst2.out, HW4.out, Cov4.out, HD4.out, Crv4.out, HBv4.out⟩
        · have hz : MW.length = 7 := by rcases hln with h | h; exact absurd (List.length_eq_zero_iff.1 h) hm0; exact h
          have hgc2 := hgc
          have hz1 : ((MW.length : Int) == 0) = false := beq_eq_false_iff_ne.mpr (by omega)
          have hz2 : (MW.length == 0) = false := beq_eq_false_iff_ne.mpr (by omega)
          have HZ := Lib.hid hz
          clear hm0 hln hz
          go_wp2_with (fail)
          go_at_call 25
          refine (HAP.out G g _ HW4.out.read HG.out hgc).mono ?_
          rintro e v5 ⟨E, eq, rfl, ho, hb⟩
          have hvz5 := hb.size
          try simp at hvz5
          have HBv5 : Hid (Below w.heap.size w v5) := Lib.hid (below_then' (by repeat (first | with_reducible exact HBv4.out | with_reducible refine blw_alloc ?_ _ | with_reducible refine Below.drew ?_ | with_reducible refine blw_step ?_ _ | with_reducible refine Below.setCell (p := ⟨_, _, none⟩) ?_ (by first | exact Nat.le_refl _ | (simp; done) | (simp; omega) | omega) _)) hb)
          have Cov5 : Hid (Cs v5 (w.heap.size + 1) [.slice D ps2.length dq]) := Lib.hid ((show Cs _ (w.heap.size + 1) [.slice D ps2.length dq] from (by (repeat (first | with_reducible exact Cov4.out | (with_reducible refine Cs.new ?_; focus (first | rfl | (simp; done) | omega)) | with_reducible refine Cs.alloc ?_ _ | with_reducible refine Cs.drew ?_ | with_reducible refine Cs.drewN ?_ _ | (with_reducible refine Cs.other ?_ ?_ _; focus (first | omega | (simp; done) | (simp; omega))) | with_reducible apply Cs.put)) <;> first | rfl | (simp; done))).after hb)
          have Crv5 : Hid (Cs v5 (w.heap.size) [.slice none 0 0]) := Lib.hid ((show Cs _ (w.heap.size) [.slice none 0 0] from (by (repeat (first | with_reducible exact Crv4.out | (with_reducible refine Cs.new ?_; focus (first | rfl | (simp; done) | omega)) | with_reducible refine Cs.alloc ?_ _ | with_reducible refine Cs.drew ?_ | with_reducible refine Cs.drewN ?_ _ | (with_reducible refine Cs.other ?_ ?_ _; focus (first | omega | (simp; done) | (simp; omega))) | with_reducible apply Cs.put)) <;> first | rfl | (simp; done))).after hb)
          have HE : Hid (OwW (w.heap.size + 2) _ E eq (applyL c MW)) := Lib.hid (Win.own_mono ho (show w.heap.size + 2 ≤ _ by have := HBv4.out.size; omega))
          have HD5 := Lib.hid (HD4.out.after hb)
          clear ho
          clear hb
          have lov5 := Cov5.out.1
          have lrv5 := Crv5.out.1
          go_wp2_with fail
          go_roundg (l.length - (k + 1))
          case measure => omega
          case rel => exact ⟨k + 1, _, E, eq, D, dq, K.1, ps2, by omega, by omega, by omega, by go_num, rfl, hsn2.out, hpk3.out, hst2.out, HE.out, Cov5.out, HD5.out, Crv5.out, HBv5.out⟩
    · have htk : l.take 12 = l.take k := by
        by_cases h : k < l.length
        · rw [show k = 12 by omega]
        · rw [List.take_of_length_le (by omega), List.take_of_length_le (by omega)]
      have hS12 : pockS me (l.take 12) = (m, ps) := by rw [htk]; exact HS.out.symm
      have HS12 := Lib.hid hS12
      have HPK12 := Lib.hid HPK.out
      clear hS12 htk HS
      have og := (Cowr.out.at 0 rfl).1
      have rg := (Crwr.out.at 0 rfl).1
      have rf := (Crwr.out.at 0 rfl).2
      have nz1 : w.heap.size ≠ w.heap.size + 1 := by omega
      have nz2 : w.heap.size + 1 ≠ w.heap.size := by omega
      by_cases hk1 : k < l.length
      · have hki : (k : Int) < (l.length : Int) := by omega
        obtain rfl : k = 12 := by omega
        clear hlt hk1
        go_wp2_with fail
        go_region_law (fail)
        all_goals go_wp2_with fail
        all_goals rw [HS12.out]
        all_goals refine bodyPost_ret (v := .tuple #[.slice B c.length p, .agg #[.slice O ps.length oq], .bool true]) (by simp [results, Tryd.results32, go_sem, Act.put, og, rg, rf]) rfl ⟨c, B, p, O, oq, rfl, HPK12.out, own_less (own_below HW.out (by omega) _ _) (by omega), own_less (own_below HP.out (by omega) _ _) (by omega), (HB.out.setCell (p := ⟨w.heap.size, 0, none⟩) (by exact Nat.le_refl _) _).drew⟩
      · have hki : ¬ (k : Int) < (l.length : Int) := by omega
        clear hlt hk1
        go_wp2_with fail
        go_region_law (fail)
        all_goals go_wp2_with fail
        all_goals rw [HS12.out]
        all_goals refine bodyPost_ret (v := .tuple #[.slice B c.length p, .agg #[.slice O ps.length oq], .bool true]) (by simp [results, Tryd.results32, go_sem, Act.put, og, rg, rf]) rfl ⟨c, B, p, O, oq, rfl, HPK12.out, own_less (own_below HW.out (by omega) _ _) (by omega), own_less (own_below HP.out (by omega) _ _) (by omega), (HB.out.setCell (p := ⟨w.heap.size, 0, none⟩) (by exact Nat.le_refl _) _).drew⟩
end Go.Proofs.YtccjcdecpgigpaaDoor.Pock
