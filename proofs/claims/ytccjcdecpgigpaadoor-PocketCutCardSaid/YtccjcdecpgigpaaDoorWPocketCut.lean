/- The walk of PocketCut. -/
import Derived.Test.YtccjcdecpgigpaaDoorPock6
namespace Go.Proofs.YtccjcdecpgigpaaDoor.PocketCut
open Go Go.RowKit Go.Proofs.YtccjcdecpgigpaaDoor.Base Go.Proofs.YtccjcdecpgigpaaDoor.Met Go.Proofs.YtccjcdecpgigpaaDoor.Win Go.Proofs.YtccjcdecpgigpaaDoor.Cell Go.Proofs.YtccjcdecpgigpaaDoor.Orc Go.Proofs.YtccjcdecpgigpaaDoor.Tok Go.Proofs.YtccjcdecpgigpaaDoor.Pock
set_option linter.unusedVariables false
set_option linter.unusedSimpArgs false
set_option maxRecDepth 20000
theorem rdh {α : Type} {size : Nat} {enc : α → List Value} {W W' : World} {A : Option Addr} {xs : List α} (h : RdE size enc W A xs) (he : ∀ ad, A = some ad → W'.heap[ad.block]? = W.heap[ad.block]?) : RdE size enc W' A xs :=
  ⟨h.1, fun hn => by
    obtain ⟨ad, e, hc⟩ := h.2 hn
    subst e
    refine ⟨ad, rfl, fun i x hx j u hu => ?_⟩
    have h1 := hc i x hx j u hu
    exact (World.cell?_of_block (by rw [add_block]; exact he ad rfl)).trans h1⟩
theorem moved_self {c : List UInt32} {s : Nat} {m : Mt} : movedW c s m m = [] := by unfold movedW; rw [(eqM_iff m m).2 rfl, if_pos rfl]
theorem tag_good (T : Tk) (h : faultI T = 0) : faultI { T with tag := (T.tag + 1) % 65536 } = 0 ∧ 0 ≤ T.tag ∧ T.tag ≤ 65535 := by
  obtain ⟨h1, h2, h3, h4, h5⟩ := fault_ok h
  refine ⟨?_, h4, h5⟩
  unfold faultI
  rw [if_pos h1, if_pos]
  exact ⟨h2, h3, by show 0 ≤ (T.tag + 1) % 65536; omega, by show (T.tag + 1) % 65536 ≤ 65535; omega⟩
set_option maxHeartbeats 16000000 in
theorem walk (me : Int) (l : List Tk) (L : Option Addr) (lq : Nat) (x : Tk) (xs : List Value) (wrong : Bool) (k : Int) (w : World) (w1 : (Lit.int .i64 me).wf = true) (hl : RdE 4 (fun t : Tk => t.vals.toList) w L l) (hok : ∀ t ∈ l, t.ok) (hx : xs = x.vals.toList ∧ x.ok) (w4 : (Lit.int .i64 k).wf = true) :
    Calls Tryd.prog 11 #[.int .i64 me, .slice L l.length lq, .agg xs.toArray, .bool wrong, .int .i64 k] w fun e w' => e = .returned (.bool true) ∧ Below w.heap.size w w' := by
  obtain ⟨rfl, xok⟩ := hx
  rw [show x.vals.toList.toArray = x.vals by simp]
  obtain ⟨m0, m1⟩ := i64_bound w1
  obtain ⟨k0, k1⟩ := i64_bound w4
  clear w1 w4
  have HPM := Lib.hid (fun W => picked_any me 50 W m0 m1 (by omega))
  obtain ⟨p0, p1⟩ := pk_bound me 50 (by decide)
  have HPK := Lib.hid (fun W => picked_any k 8 W k0 k1 (by omega))
  obtain ⟨s0, s1⟩ := pk_bound k 8 (by decide)
  obtain ⟨cut, hcut⟩ := Int.eq_ofNat_of_zero_le s0
  rw [hcut] at HPK s1
  have hcut7 : cut ≤ 7 := by omega
  generalize pk me 50 = me' at *
  have HL := Lib.hid hl
  have HAT := Lib.hid (fun W hL => pocketAt_any me' l L lq W p0 p1 hL hok)
  have hin := PInv.all p0 p1 (l.take 12) (by rw [List.length_take]; omega)
  have hn : (l.take 12).length ≤ 12 := by rw [List.length_take]; omega
  generalize (l.take 12).length = n at *
  generalize pockS me' (l.take 12) = st at *
  obtain ⟨m, ps⟩ := st
  have hkept := hin.kept
  have hme := hin.me
  obtain ⟨lm1, lm2⟩ := hin.lim
  simp only at HAT hkept hme lm1 lm2
  have hkl2 := hkept.len
  have HSD := Lib.hid (fun O oq W hW hnil => sold_any ps O oq m x W hW hkept.ok hkept.good hnil lm1 lm2 xok (.inr (by omega)))
  have hiss := hin.iss (by omega) x
  have hgt := soldT_good ps m.me m.rev x hkept.good
  unfold psOf at hiss
  simp only at HSD hiss
  generalize issL ps m.me m.rev (bodyI (Met.madeT x)) (Met.madeT x).tag = ps2 at *
  generalize soldT ps m.me m.rev x = T at *
  obtain ⟨hgt2, tg0, tg1⟩ := tag_good T hgt
  have HBT := Lib.hid (fun c m A q W hc hk hq => Boot_any c m A q W hc hk hq)
  have hT2 : ∃ T2 : Tk, faultI T2 = 0 ∧ T2.cl = T.cl ∧ T2.id = T.id ∧ T2.am = T.am ∧ T2.tag = if wrong then (T.tag + 1) % 65536 else T.tag := by
    cases wrong
    · exact ⟨T, hgt, rfl, rfl, rfl, rfl⟩
    · exact ⟨_, hgt2, rfl, rfl, rfl, rfl⟩
  obtain ⟨T2, hg2, e1, e2, e3, e4⟩ := hT2
  have HF := Lib.hid (fun W => format_yes T2 hg2 W)
  have hfl := fmtS_list T2
  obtain ⟨pf1, pf2⟩ := parse_fmt hg2
  have hke : keyedR m ps2 (fmtS T2).data.toList = keyR m ps2 T2 := by unfold keyedR; rw [hfl, if_pos pf1, pf2]
  have HKD := Lib.hid (fun c s B p D dq W hc hk hs hq hr => Keyed_any c m ps2 (fmtS T2) s B D p dq W hc hk hs hq hr hiss.ok hiss.good)
  rw [hke] at HKD
  have HKY := Lib.hid (fun D dq W hr => key_yes m ps2 T2 D dq W hin.ok hin.may hr hiss.ok hiss.good)
  obtain ⟨kk1, kk2⟩ := key_keep m ps2 T2 hin.ok hin.may
  have hmv := Lib.hid (fun (c : List UInt32) (s : Nat) (h : Pk c m) (hs : newerN (markN c 5 0) (markN c 5 1) = some s) => moved_pk (next := (keyR m ps2 T2).1) h hs kk1 kk2)
  try simp only at HKY
  generalize keyR m ps2 T2 = K at *
  generalize fmtS T2 = S at *
  obtain ⟨K1, ad, co⟩ := K
  simp only at HKY HKD hmv
  have HEQ := Lib.hid (fun W => run_eql m K1 W)
  have HE1 := Lib.hid (fun W => run_eql m m W)
  have HE2 := Lib.hid (fun W => run_eql K1 K1 W)
  rw [(eqM_iff m m).2 rfl] at HE1
  rw [(eqM_iff K1 K1).2 rfl] at HE2
  have hself := Lib.hid (fun h => (eqM_iff m K1).1 h)
  clear hin hkept hiss hgt hgt2 hg2 hfl pf1 pf2 hke kk1 kk2 hl hok xok hkl2 lm1 lm2 hn s0 hcut
  have HME := Lib.hid hme
  clear hme
  cases wrong
  · rw [if_neg (by simp)] at e4
    obtain ⟨xcl, xid, xam, xtag⟩ := x
    obtain ⟨tcl, tid, tam, ttag⟩ := T
    obtain ⟨ucl, uid, uam, utag⟩ := T2
    simp only at e1 e2 e3 e4 tg0 tg1
    subst e1 e2 e3 e4
    unfold Tk.vals at *
    simp only at HSD HF HKY ⊢
    go_enter Tryd.func11, Tryd.ntmps11
    go_wp2_with fail
    go_at_call 17
    refine (HPM.out _).mono ?_
    rintro e w' ⟨rfl, rfl⟩
    go_wp2_with (fail)
    go_at_call 32
    refine (HAT.out _ (HL.out.below (blw_alloc (Below.refl _ _) _))).mono ?_
    rintro e w1 ⟨c, B, p, O, oq, rfl, hpk, ho, hop, hb⟩
    have hwz1 := hb.size
    try simp at hwz1
    have HBw1 : Hid (Below w.heap.size w w1) := Lib.hid (below_then' (by repeat (first | with_reducible exact Below.refl _ _ | with_reducible refine blw_alloc ?_ _ | with_reducible refine Below.drew ?_ | with_reducible refine blw_step ?_ _ | with_reducible refine Below.setCell (p := ⟨_, _, none⟩) ?_ (by first | exact Nat.le_refl _ | (simp; done) | (simp; omega) | omega) _)) hb)
    have Cxw1 : Hid (Cs w1 (w.heap.size) [.int .i64 xcl, .int .i64 xid, .int .i64 xam, .int .i64 xtag]) := Lib.hid ((show Cs _ (w.heap.size) [.int .i64 xcl, .int .i64 xid, .int .i64 xam, .int .i64 xtag] from (by (repeat (first | (with_reducible refine Cs.new ?_; focus (first | rfl | (simp; done) | omega)) | with_reducible refine Cs.alloc ?_ _ | with_reducible refine Cs.drew ?_ | with_reducible refine Cs.drewN ?_ _ | (with_reducible refine Cs.other ?_ ?_ _; focus (first | omega | (simp; done) | (simp; omega))) | with_reducible apply Cs.put)) <;> first | rfl | (simp; done))).after hb)
    have HWB := Lib.hid (fun (W : World) (h : Below w1.heap.size w1 W) => ho.read.below h)
    have HOB := Lib.hid (fun (W : World) (h : Below w1.heap.size w1 W) => hop.read.below h)
    have HBL := Lib.hid (fun ad (e : B = some ad) => (show ad.block ≠ w1.heap.size from by have := (ho.lt ad.block (by rw [e]; rfl)).2; omega))
    have hcap := own_cap ho
    have hnil := hop.nil_of
    have HPc := Lib.hid hpk
    clear ho hop hpk
    clear hb
    have lxw1 := Cxw1.out.1
    have hs1 := HBw1.out.size
    obtain ⟨s, hs⟩ := HPc.out.newer
    have HB2 := Lib.hid (fun W hc => HBT.out c m B p W hc HPc.out hcap)
    have HKD2 := Lib.hid (fun D dq W hc hr => HKD.out c s B p D dq W hc HPc.out hs hcap hr)
    have hpk2 := hmv.out c s HPc.out hs
    have hcutf := fun hl => cut_pk (s := s) (k := cut) (old := m) (next := K1) HPc.out hs hl
    have hin2 := moved_in (s := s) (old := m) (next := K1) HPc.out.len (newer_lt hs)
    have hcl := HPc.out.len
    have hln := moved_len c s m K1
    have hzz : eqM m K1 = true → movedW c s m K1 = [] := fun h => by unfold movedW; rw [h, if_pos rfl]
    have hnn : eqM m K1 = false → (movedW c s m K1).length = 7 := fun h => by unfold movedW; rw [h, if_neg (by simp), storeW_len]; rfl
    have hk2 : (movedW c s m K1).length = 7 → ∃ m2 : Mt, Pk (applyL c ((movedW c s m K1).take cut)) m2 ∧ m2 = if cut = 7 then K1 else m := by
      intro h7
      by_cases hc7 : cut = 7
      · rw [List.take_of_length_le (by omega), if_pos hc7]
        exact ⟨_, hpk2, rfl⟩
      · rw [if_neg hc7]
        exact ⟨m, hcutf (by omega), rfl⟩
    have HK2 := Lib.hid hk2
    have HAP := Lib.hid (fun G g W hc hw hg (h7 : (movedW c s m K1).length = 7) => apply_any c (movedW c s m K1) cut (cut : Int) B G p g W hc hw (by omega) (by omega) (by omega) hg hin2 rfl (by omega))
    have HZZ := Lib.hid hzz
    have HNN := Lib.hid hnn
    have HB3 := Lib.hid (fun c2 m2 E eq W hc hk hq => HBT.out c2 m2 E eq W hc hk hq)
    clear hpk2 hcutf hin2 hcl hln hzz hnn hk2 hs HKD HBT hmv HAT
    generalize movedW c s m K1 = MW at *
    obtain ⟨a0, a1, a2, a3, a4, a5, a6⟩ := m
    obtain ⟨b0, b1, b2, b3, b4, b5, b6⟩ := K1
    simp only at HME
    unfold Mt.vals at *
    simp only at HB2 HKY HKD2 HSD HEQ HE1 HE2
    go_wp2_with (fail)
    go_at_call 26
    refine (HB2.out _ (HWB.out _ (by repeat (first | with_reducible exact Below.refl _ _ | with_reducible refine blw_alloc ?_ _ | with_reducible refine Below.drew ?_ | with_reducible refine blw_step ?_ _ | with_reducible refine Below.setCell (p := ⟨_, _, none⟩) ?_ (by first | exact Nat.le_refl _ | (simp; done) | (simp; omega) | omega) _)))).mono ?_
    rintro e w2 ⟨rfl, hb⟩
    have hwz2 := hb.size
    try simp at hwz2
    have HBw2 : Hid (Below w.heap.size w w2) := Lib.hid (below_then' (by repeat (first | with_reducible exact HBw1.out | with_reducible refine blw_alloc ?_ _ | with_reducible refine Below.drew ?_ | with_reducible refine blw_step ?_ _ | with_reducible refine Below.setCell (p := ⟨_, _, none⟩) ?_ (by first | exact Nat.le_refl _ | (simp; done) | (simp; omega) | omega) _)) hb)
    have Cxw2 : Hid (Cs w2 (w.heap.size) [.int .i64 xcl, .int .i64 xid, .int .i64 xam, .int .i64 xtag]) := Lib.hid ((show Cs _ (w.heap.size) [.int .i64 xcl, .int .i64 xid, .int .i64 xam, .int .i64 xtag] from (by (repeat (first | with_reducible exact Cxw1.out | (with_reducible refine Cs.new ?_; focus (first | rfl | (simp; done) | omega)) | with_reducible refine Cs.alloc ?_ _ | with_reducible refine Cs.drew ?_ | with_reducible refine Cs.drewN ?_ _ | (with_reducible refine Cs.other ?_ ?_ _; focus (first | omega | (simp; done) | (simp; omega))) | with_reducible apply Cs.put)) <;> first | rfl | (simp; done))).after hb)
    have Cow2 : Hid (Cs w2 (w1.heap.size) [.slice O ps.length oq]) := Lib.hid ((show Cs _ (w1.heap.size) [.slice O ps.length oq] from (by (repeat (first | (with_reducible refine Cs.new ?_; focus (first | rfl | (simp; done) | omega)) | with_reducible refine Cs.alloc ?_ _ | with_reducible refine Cs.drew ?_ | with_reducible refine Cs.drewN ?_ _ | (with_reducible refine Cs.other ?_ ?_ _; focus (first | omega | (simp; done) | (simp; omega))) | with_reducible apply Cs.put)) <;> first | rfl | (simp; done))).after hb)
    have hw12 : Hid (Below w1.heap.size w1 w2) := Lib.hid (below_then' (by repeat (first | with_reducible exact Below.refl _ _ | with_reducible refine blw_alloc ?_ _ | with_reducible refine Below.drew ?_ | with_reducible refine blw_step ?_ _ | with_reducible refine Below.setCell (p := ⟨_, _, none⟩) ?_ (by first | exact Nat.le_refl _ | (simp; done) | (simp; omega) | omega) _)) hb)
    clear hb
    have lxw2 := Cxw2.out.1
    have xw2g0 := (Cxw2.out.at 0 rfl).1
    have xw2g1 := (Cxw2.out.at 1 rfl).1
    have xw2g2 := (Cxw2.out.at 2 rfl).1
    have xw2g3 := (Cxw2.out.at 3 rfl).1
    have low2 := Cow2.out.1
    have ow2g0 := (Cow2.out.at 0 rfl).1
    have ow2f0 := (Cow2.out.at 0 rfl).2
    have hs2 := HBw2.out.size
    go_wp2_with (fail)
    go_at_call 33
    refine (HSD.out O oq _ (HOB.out _ (by repeat (first | with_reducible exact hw12.out | with_reducible refine blw_alloc ?_ _ | with_reducible refine Below.drew ?_ | with_reducible refine blw_step ?_ _ | with_reducible refine Below.setCell (p := ⟨_, _, none⟩) ?_ (by first | exact Nat.le_refl _ | (simp; done) | (simp; omega) | omega) _))) hnil).mono ?_
    rintro e w3 ⟨D, dq, rfl, hd, hb⟩
    have hwz3 := hb.size
    try simp at hwz3
    have HBw3 : Hid (Below w.heap.size w w3) := Lib.hid (below_then' (by repeat (first | with_reducible exact HBw2.out | with_reducible refine blw_alloc ?_ _ | with_reducible refine Below.drew ?_ | with_reducible refine blw_step ?_ _ | with_reducible refine Below.setCell (p := ⟨_, _, none⟩) ?_ (by first | exact Nat.le_refl _ | (simp; done) | (simp; omega) | omega) _)) hb)
    have Cxw3 : Hid (Cs w3 (w.heap.size) [.int .i64 xcl, .int .i64 xid, .int .i64 xam, .int .i64 xtag]) := Lib.hid ((show Cs _ (w.heap.size) [.int .i64 xcl, .int .i64 xid, .int .i64 xam, .int .i64 xtag] from (by (repeat (first | with_reducible exact Cxw2.out | (with_reducible refine Cs.new ?_; focus (first | rfl | (simp; done) | omega)) | with_reducible refine Cs.alloc ?_ _ | with_reducible refine Cs.drew ?_ | with_reducible refine Cs.drewN ?_ _ | (with_reducible refine Cs.other ?_ ?_ _; focus (first | omega | (simp; done) | (simp; omega))) | with_reducible apply Cs.put)) <;> first | rfl | (simp; done))).after hb)
    have Cow3 : Hid (Cs w3 (w1.heap.size) [.slice O ps.length oq]) := Lib.hid ((show Cs _ (w1.heap.size) [.slice O ps.length oq] from (by (repeat (first | with_reducible exact Cow2.out | (with_reducible refine Cs.new ?_; focus (first | rfl | (simp; done) | omega)) | with_reducible refine Cs.alloc ?_ _ | with_reducible refine Cs.drew ?_ | with_reducible refine Cs.drewN ?_ _ | (with_reducible refine Cs.other ?_ ?_ _; focus (first | omega | (simp; done) | (simp; omega))) | with_reducible apply Cs.put)) <;> first | rfl | (simp; done))).after hb)
    have Cmw3 : Hid (Cs w3 (w2.heap.size) [.int .i64 a0, .int .i64 a1, .int .i64 a2, .int .i64 a3, .int .u64 (a4 : Int), .int .i64 a5, .int .i64 a6]) := Lib.hid ((show Cs _ (w2.heap.size) [.int .i64 a0, .int .i64 a1, .int .i64 a2, .int .i64 a3, .int .u64 (a4 : Int), .int .i64 a5, .int .i64 a6] from (by (repeat (first | (with_reducible refine Cs.new ?_; focus (first | rfl | (simp; done) | omega)) | with_reducible refine Cs.alloc ?_ _ | with_reducible refine Cs.drew ?_ | with_reducible refine Cs.drewN ?_ _ | (with_reducible refine Cs.other ?_ ?_ _; focus (first | omega | (simp; done) | (simp; omega))) | with_reducible apply Cs.put)) <;> first | rfl | (simp; done))).after hb)
    have hw13 : Hid (Below w1.heap.size w1 w3) := Lib.hid (below_then' (by repeat (first | with_reducible exact hw12.out | with_reducible refine blw_alloc ?_ _ | with_reducible refine Below.drew ?_ | with_reducible refine blw_step ?_ _ | with_reducible refine Below.setCell (p := ⟨_, _, none⟩) ?_ (by first | exact Nat.le_refl _ | (simp; done) | (simp; omega) | omega) _)) hb)
    have HD := Lib.hid hd.read
    have hdl := (Lib.hid (fun ad (e : D = some ad) => hd.lt ad.block (by rw [e]; rfl)))
    clear hd
    clear xw2g0 xw2g1 xw2g2 xw2g3 ow2g0 ow2f0 hb
    have lxw3 := Cxw3.out.1
    have low3 := Cow3.out.1
    have ow3g0 := (Cow3.out.at 0 rfl).1
    have ow3f0 := (Cow3.out.at 0 rfl).2
    have lmw3 := Cmw3.out.1
    have hs3 := HBw3.out.size
    go_upto_region 8 with fail
    obtain ⟨u, hu⟩ : ∃ u, u = (w3.setCell ⟨w1.heap.size, 0, none⟩ (.slice D ps2.length dq)).alloc (.cells #[.int .i64 ucl, .int .i64 uid, .int .i64 uam, .int .i64 utag] 27) := ⟨_, rfl⟩
    have HBu : Hid (Below w.heap.size w u) := Lib.hid (by rw [hu]; exact blw_alloc (HBw3.out.setCell (p := ⟨w1.heap.size, 0, none⟩) (by show w.heap.size ≤ w1.heap.size; omega) _) _)
    have Cou : Hid (Cs u w1.heap.size [.slice D ps2.length dq]) := Lib.hid (by rw [hu]; exact Cs.alloc (put1 Cow3.out) _)
    have Cmu : Hid (Cs u w2.heap.size [.int .i64 a0, .int .i64 a1, .int .i64 a2, .int .i64 a3, .int .u64 (a4 : Int), .int .i64 a5, .int .i64 a6]) := Lib.hid (by rw [hu]; exact Cs.alloc (Cs.other (by show w1.heap.size ≠ w2.heap.size; omega) Cmw3.out _) _)
    have Ctu : Hid (Cs u w3.heap.size [.int .i64 ucl, .int .i64 uid, .int .i64 uam, .int .i64 utag]) := Lib.hid (by rw [hu]; exact Cs.new (by simp))
    have HCu : Hid (RdE 1 encW u B c) := Lib.hid (by rw [hu]; exact (rdh (HWB.out w3 hw13.out) (fun ad e => heap_setCell_other _ _ _ _ (HBL.out ad e))).below (blw_alloc (Below.refl _ _) _))
    have HDu : Hid (RdE 4 Pr.enc u D ps2) := Lib.hid (by rw [hu]; exact (rdh HD.out (fun ad e => heap_setCell_other _ _ _ _ (by have := (hdl.out ad e).1; have h12 := hw12.out.size; simp at this; show ad.block ≠ w1.heap.size; omega))).below (blw_alloc (Below.refl _ _) _))
    rw [← hu]
    clear hu
    have lou := Cou.out.1
    have lmu := Cmu.out.1
    have ltu := Ctu.out.1
    have tu0 := (Ctu.out.at 0 rfl).1
    have tu1 := (Ctu.out.at 1 rfl).1
    have tu2 := (Ctu.out.at 2 rfl).1
    have tu3 := (Ctu.out.at 3 rfl).1
    clear ow3g0 ow3f0
    go_wp2_with (fail)
    go_at_call 14
    refine (HF.out _).mono ?_
    rintro e w4 ⟨rfl, hb⟩
    have hwz4 := hb.size
    try simp at hwz4
    have HBw4 : Hid (Below w.heap.size w w4) := Lib.hid (below_then' (by repeat (first | with_reducible exact HBu.out | with_reducible refine blw_alloc ?_ _ | with_reducible refine Below.drew ?_ | with_reducible refine blw_step ?_ _ | with_reducible refine Below.setCell (p := ⟨_, _, none⟩) ?_ (by first | exact Nat.le_refl _ | (simp; done) | (simp; omega) | omega) _)) hb)
    have Cow4 : Hid (Cs w4 (w1.heap.size) [.slice D ps2.length dq]) := Lib.hid ((show Cs _ (w1.heap.size) [.slice D ps2.length dq] from (by (repeat (first | with_reducible exact Cou.out | (with_reducible refine Cs.new ?_; focus (first | rfl | (simp; done) | omega)) | with_reducible refine Cs.alloc ?_ _ | with_reducible refine Cs.drew ?_ | with_reducible refine Cs.drewN ?_ _ | (with_reducible refine Cs.other ?_ ?_ _; focus (first | omega | (simp; done) | (simp; omega))) | with_reducible apply Cs.put)) <;> first | rfl | (simp; done))).after hb)
    have Cmw4 : Hid (Cs w4 (w2.heap.size) [.int .i64 a0, .int .i64 a1, .int .i64 a2, .int .i64 a3, .int .u64 (a4 : Int), .int .i64 a5, .int .i64 a6]) := Lib.hid ((show Cs _ (w2.heap.size) [.int .i64 a0, .int .i64 a1, .int .i64 a2, .int .i64 a3, .int .u64 (a4 : Int), .int .i64 a5, .int .i64 a6] from (by (repeat (first | with_reducible exact Cmu.out | (with_reducible refine Cs.new ?_; focus (first | rfl | (simp; done) | omega)) | with_reducible refine Cs.alloc ?_ _ | with_reducible refine Cs.drew ?_ | with_reducible refine Cs.drewN ?_ _ | (with_reducible refine Cs.other ?_ ?_ _; focus (first | omega | (simp; done) | (simp; omega))) | with_reducible apply Cs.put)) <;> first | rfl | (simp; done))).after hb)
    have Ctw4 : Hid (Cs w4 (w3.heap.size) [.int .i64 ucl, .int .i64 uid, .int .i64 uam, .int .i64 utag]) := Lib.hid ((show Cs _ (w3.heap.size) [.int .i64 ucl, .int .i64 uid, .int .i64 uam, .int .i64 utag] from (by (repeat (first | with_reducible exact Ctu.out | (with_reducible refine Cs.new ?_; focus (first | rfl | (simp; done) | omega)) | with_reducible refine Cs.alloc ?_ _ | with_reducible refine Cs.drew ?_ | with_reducible refine Cs.drewN ?_ _ | (with_reducible refine Cs.other ?_ ?_ _; focus (first | omega | (simp; done) | (simp; omega))) | with_reducible apply Cs.put)) <;> first | rfl | (simp; done))).after hb)
    have hwu4 : Hid (Below u.heap.size u w4) := Lib.hid (below_then' (by repeat (first | with_reducible exact Below.refl _ _ | with_reducible refine blw_alloc ?_ _ | with_reducible refine Below.drew ?_ | with_reducible refine blw_step ?_ _ | with_reducible refine Below.setCell (p := ⟨_, _, none⟩) ?_ (by first | exact Nat.le_refl _ | (simp; done) | (simp; omega) | omega) _)) hb)
    clear tu0 tu1 tu2 tu3 hb
    have low4 := Cow4.out.1
    have ow4g0 := (Cow4.out.at 0 rfl).1
    have lmw4 := Cmw4.out.1
    have mw4g0 := (Cmw4.out.at 0 rfl).1
    have mw4g1 := (Cmw4.out.at 1 rfl).1
    have mw4g2 := (Cmw4.out.at 2 rfl).1
    have mw4g3 := (Cmw4.out.at 3 rfl).1
    have mw4g4 := (Cmw4.out.at 4 rfl).1
    have mw4g5 := (Cmw4.out.at 5 rfl).1
    have mw4g6 := (Cmw4.out.at 6 rfl).1
    have ltw4 := Ctw4.out.1
    have tw4g0 := (Ctw4.out.at 0 rfl).1
    have tw4g1 := (Ctw4.out.at 1 rfl).1
    have tw4g2 := (Ctw4.out.at 2 rfl).1
    have tw4g3 := (Ctw4.out.at 3 rfl).1
    go_wp2_with (fail)
    go_at_call 34
    refine (HKY.out D dq _ (HDu.out.below (by repeat (first | with_reducible exact hwu4.out | with_reducible refine blw_alloc ?_ _ | with_reducible refine Below.drew ?_ | with_reducible refine blw_step ?_ _ | with_reducible refine Below.setCell (p := ⟨_, _, none⟩) ?_ (by first | exact Nat.le_refl _ | (simp; done) | (simp; omega) | omega) _)))).mono ?_
    rintro e w5 ⟨rfl, hb⟩
    have hwz5 := hb.size
    try simp at hwz5
    have HBw5 : Hid (Below w.heap.size w w5) := Lib.hid (below_then' (by repeat (first | with_reducible exact HBw4.out | with_reducible refine blw_alloc ?_ _ | with_reducible refine Below.drew ?_ | with_reducible refine blw_step ?_ _ | with_reducible refine Below.setCell (p := ⟨_, _, none⟩) ?_ (by first | exact Nat.le_refl _ | (simp; done) | (simp; omega) | omega) _)) hb)
    have Cow5 : Hid (Cs w5 (w1.heap.size) [.slice D ps2.length dq]) := Lib.hid ((show Cs _ (w1.heap.size) [.slice D ps2.length dq] from (by (repeat (first | with_reducible exact Cow4.out | (with_reducible refine Cs.new ?_; focus (first | rfl | (simp; done) | omega)) | with_reducible refine Cs.alloc ?_ _ | with_reducible refine Cs.drew ?_ | with_reducible refine Cs.drewN ?_ _ | (with_reducible refine Cs.other ?_ ?_ _; focus (first | omega | (simp; done) | (simp; omega))) | with_reducible apply Cs.put)) <;> first | rfl | (simp; done))).after hb)
    have Cmw5 : Hid (Cs w5 (w2.heap.size) [.int .i64 a0, .int .i64 a1, .int .i64 a2, .int .i64 a3, .int .u64 (a4 : Int), .int .i64 a5, .int .i64 a6]) := Lib.hid ((show Cs _ (w2.heap.size) [.int .i64 a0, .int .i64 a1, .int .i64 a2, .int .i64 a3, .int .u64 (a4 : Int), .int .i64 a5, .int .i64 a6] from (by (repeat (first | with_reducible exact Cmw4.out | (with_reducible refine Cs.new ?_; focus (first | rfl | (simp; done) | omega)) | with_reducible refine Cs.alloc ?_ _ | with_reducible refine Cs.drew ?_ | with_reducible refine Cs.drewN ?_ _ | (with_reducible refine Cs.other ?_ ?_ _; focus (first | omega | (simp; done) | (simp; omega))) | with_reducible apply Cs.put)) <;> first | rfl | (simp; done))).after hb)
    have hwu5 : Hid (Below u.heap.size u w5) := Lib.hid (below_then' (by repeat (first | with_reducible exact hwu4.out | with_reducible refine blw_alloc ?_ _ | with_reducible refine Below.drew ?_ | with_reducible refine blw_step ?_ _ | with_reducible refine Below.setCell (p := ⟨_, _, none⟩) ?_ (by first | exact Nat.le_refl _ | (simp; done) | (simp; omega) | omega) _)) hb)
    clear ow4g0 mw4g0 mw4g1 mw4g2 mw4g3 mw4g4 mw4g5 mw4g6 tw4g0 tw4g1 tw4g2 tw4g3 hb
    have low5 := Cow5.out.1
    have ow5g0 := (Cow5.out.at 0 rfl).1
    have lmw5 := Cmw5.out.1
    have hs5 := HBw5.out.size
    go_wp2_with (fail)
    go_at_call 24
    refine (HKD2.out D dq _ (HCu.out.below (by repeat (first | with_reducible exact hwu5.out | with_reducible refine blw_alloc ?_ _ | with_reducible refine Below.drew ?_ | with_reducible refine blw_step ?_ _ | with_reducible refine Below.setCell (p := ⟨_, _, none⟩) ?_ (by first | exact Nat.le_refl _ | (simp; done) | (simp; omega) | omega) _))) (HDu.out.below (by repeat (first | with_reducible exact hwu5.out | with_reducible refine blw_alloc ?_ _ | with_reducible refine Below.drew ?_ | with_reducible refine blw_step ?_ _ | with_reducible refine Below.setCell (p := ⟨_, _, none⟩) ?_ (by first | exact Nat.le_refl _ | (simp; done) | (simp; omega) | omega) _)))).mono ?_
    rintro e w6 ⟨G, g, rfl, hg, hb⟩
    have hwz6 := hb.size
    try simp at hwz6
    have HBw6 : Hid (Below w.heap.size w w6) := Lib.hid (below_then' (by repeat (first | with_reducible exact HBw5.out | with_reducible refine blw_alloc ?_ _ | with_reducible refine Below.drew ?_ | with_reducible refine blw_step ?_ _ | with_reducible refine Below.setCell (p := ⟨_, _, none⟩) ?_ (by first | exact Nat.le_refl _ | (simp; done) | (simp; omega) | omega) _)) hb)
    have Cmw6 : Hid (Cs w6 (w2.heap.size) [.int .i64 a0, .int .i64 a1, .int .i64 a2, .int .i64 a3, .int .u64 (a4 : Int), .int .i64 a5, .int .i64 a6]) := Lib.hid ((show Cs _ (w2.heap.size) [.int .i64 a0, .int .i64 a1, .int .i64 a2, .int .i64 a3, .int .u64 (a4 : Int), .int .i64 a5, .int .i64 a6] from (by (repeat (first | with_reducible exact Cmw5.out | (with_reducible refine Cs.new ?_; focus (first | rfl | (simp; done) | omega)) | with_reducible refine Cs.alloc ?_ _ | with_reducible refine Cs.drew ?_ | with_reducible refine Cs.drewN ?_ _ | (with_reducible refine Cs.other ?_ ?_ _; focus (first | omega | (simp; done) | (simp; omega))) | with_reducible apply Cs.put)) <;> first | rfl | (simp; done))).after hb)
    have Cnw6 : Hid (Cs w6 (w5.heap.size) [.int .i64 b0, .int .i64 b1, .int .i64 b2, .int .i64 b3, .int .u64 (b4 : Int), .int .i64 b5, .int .i64 b6]) := Lib.hid ((show Cs _ (w5.heap.size) [.int .i64 b0, .int .i64 b1, .int .i64 b2, .int .i64 b3, .int .u64 (b4 : Int), .int .i64 b5, .int .i64 b6] from (by (repeat (first | (with_reducible refine Cs.new ?_; focus (first | rfl | (simp; done) | omega)) | with_reducible refine Cs.alloc ?_ _ | with_reducible refine Cs.drew ?_ | with_reducible refine Cs.drewN ?_ _ | (with_reducible refine Cs.other ?_ ?_ _; focus (first | omega | (simp; done) | (simp; omega))) | with_reducible apply Cs.put)) <;> first | rfl | (simp; done))).after hb)
    have hwu6 : Hid (Below u.heap.size u w6) := Lib.hid (below_then' (by repeat (first | with_reducible exact hwu5.out | with_reducible refine blw_alloc ?_ _ | with_reducible refine Below.drew ?_ | with_reducible refine blw_step ?_ _ | with_reducible refine Below.setCell (p := ⟨_, _, none⟩) ?_ (by first | exact Nat.le_refl _ | (simp; done) | (simp; omega) | omega) _)) hb)
    have HG := Lib.hid hg.read
    have hgc := own_cap hg
    clear hg
    clear ow5g0 hb
    have lmw6 := Cmw6.out.1
    have mw6g0 := (Cmw6.out.at 0 rfl).1
    have mw6g1 := (Cmw6.out.at 1 rfl).1
    have mw6g2 := (Cmw6.out.at 2 rfl).1
    have mw6g3 := (Cmw6.out.at 3 rfl).1
    have mw6g4 := (Cmw6.out.at 4 rfl).1
    have mw6g5 := (Cmw6.out.at 5 rfl).1
    have mw6g6 := (Cmw6.out.at 6 rfl).1
    have lnw6 := Cnw6.out.1
    have nw6g0 := (Cnw6.out.at 0 rfl).1
    have nw6g1 := (Cnw6.out.at 1 rfl).1
    have nw6g2 := (Cnw6.out.at 2 rfl).1
    have nw6g3 := (Cnw6.out.at 3 rfl).1
    have nw6g4 := (Cnw6.out.at 4 rfl).1
    have nw6g5 := (Cnw6.out.at 5 rfl).1
    have nw6g6 := (Cnw6.out.at 6 rfl).1
    have hme := HME.out
    subst hme
    cases he : eqM ⟨a0, a1, a2, a3, a4, a5, a6⟩ ⟨b0, b1, b2, b3, b4, b5, b6⟩ with
    | true =>
        rw [he] at HEQ
        have heq := HEQ.out
        have hz := HZZ.out he
        have hz0 : MW.length = 0 := by rw [hz]; rfl
        have hz1 : ((MW.length : Int) == 0) = true := beq_iff_eq.mpr (by omega)
        have hz2 : (MW.length == 0) = true := beq_iff_eq.mpr hz0
        clear hz hz0 he
        go_upto_region 11 with fail
        go_quiet ((go_at_call 17; exact quiet_same (HPM.out _)))
        have HBq : Hid (Below w.heap.size w (w6.drewN nq)) := Lib.hid (blw_step HBw6.out nq)
        have Cmq := Lib.hid (Cmw6.out.drewN nq)
        have Cnq := Lib.hid (Cnw6.out.drewN nq)
        clear mw6g0 mw6g1 mw6g2 mw6g3 mw6g4 mw6g5 mw6g6 nw6g0 nw6g1 nw6g2 nw6g3 nw6g4 nw6g5 nw6g6
        go_wp2_with fail
        go_ret
        exact ⟨rfl, HBq.out⟩
    | false =>
        rw [he] at HEQ
        have heq := HEQ.out
        have h7 := HNN.out he
        have hz1 : ((MW.length : Int) == 0) = false := beq_eq_false_iff_ne.mpr (by omega)
        have hz2 : (MW.length == 0) = false := beq_eq_false_iff_ne.mpr (by omega)
        have H7 := Lib.hid h7
        clear h7 he
        go_upto_region 11 with fail
        go_quiet ((go_at_call 17; exact quiet_same (HPM.out _)))
        have HBq : Hid (Below w.heap.size w (w6.drewN nq)) := Lib.hid (blw_step HBw6.out nq)
        have Cmq := Lib.hid (Cmw6.out.drewN nq)
        have Cnq := Lib.hid (Cnw6.out.drewN nq)
        clear mw6g0 mw6g1 mw6g2 mw6g3 mw6g4 mw6g5 mw6g6 nw6g0 nw6g1 nw6g2 nw6g3 nw6g4 nw6g5 nw6g6
        have HCq := Lib.hid (HCu.out.below (blw_step hwu6.out nq))
        have HGq := Lib.hid (HG.out.below (blw_drewN _ _ nq))
        generalize w6.drewN nq = u7 at *
        have lmu7 := Cmq.out.1
        have lnu7 := Cnq.out.1
        have l7 : IntKind.i64.wrap ((MW.length : Int) + 1) = 8 := by have := H7.out; rw [this]; rfl
        have l8 : (MW.length : Int) + 1 = 8 := by have := H7.out; omega
        go_wp2_with fail
        go_at_call 17
        refine (HPK.out _).mono ?_
        rintro e w' ⟨rfl, rfl⟩
        clear l7 l8
        obtain ⟨m2, hp2, hm2⟩ := HK2.out H7.out
        have HB4 := Lib.hid (fun E eq W hc hq => HB3.out _ m2 E eq W hc hp2 hq)
        go_wp2_with (fail)
        go_at_call 25
        refine (HAP.out G g _ HCq.out HGq.out hgc H7.out).mono ?_
        rintro e x1 ⟨E, eq, rfl, ho, hb⟩
        have hxz1 := hb.size
        try simp at hxz1
        have HBx1 : Hid (Below w.heap.size w x1) := Lib.hid (below_then' (by repeat (first | with_reducible exact HBq.out | with_reducible refine blw_alloc ?_ _ | with_reducible refine Below.drew ?_ | with_reducible refine blw_step ?_ _ | with_reducible refine Below.setCell (p := ⟨_, _, none⟩) ?_ (by first | exact Nat.le_refl _ | (simp; done) | (simp; omega) | omega) _)) hb)
        have Cmx1 : Hid (Cs x1 (w2.heap.size) [.int .i64 a0, .int .i64 a1, .int .i64 a2, .int .i64 a3, .int .u64 (a4 : Int), .int .i64 a5, .int .i64 a6]) := Lib.hid ((show Cs _ (w2.heap.size) [.int .i64 a0, .int .i64 a1, .int .i64 a2, .int .i64 a3, .int .u64 (a4 : Int), .int .i64 a5, .int .i64 a6] from (by (repeat (first | with_reducible exact Cmq.out | (with_reducible refine Cs.new ?_; focus (first | rfl | (simp; done) | omega)) | with_reducible refine Cs.alloc ?_ _ | with_reducible refine Cs.drew ?_ | with_reducible refine Cs.drewN ?_ _ | (with_reducible refine Cs.other ?_ ?_ _; focus (first | omega | (simp; done) | (simp; omega))) | with_reducible apply Cs.put)) <;> first | rfl | (simp; done))).after hb)
        have Cnx1 : Hid (Cs x1 (w5.heap.size) [.int .i64 b0, .int .i64 b1, .int .i64 b2, .int .i64 b3, .int .u64 (b4 : Int), .int .i64 b5, .int .i64 b6]) := Lib.hid ((show Cs _ (w5.heap.size) [.int .i64 b0, .int .i64 b1, .int .i64 b2, .int .i64 b3, .int .u64 (b4 : Int), .int .i64 b5, .int .i64 b6] from (by (repeat (first | with_reducible exact Cnq.out | (with_reducible refine Cs.new ?_; focus (first | rfl | (simp; done) | omega)) | with_reducible refine Cs.alloc ?_ _ | with_reducible refine Cs.drew ?_ | with_reducible refine Cs.drewN ?_ _ | (with_reducible refine Cs.other ?_ ?_ _; focus (first | omega | (simp; done) | (simp; omega))) | with_reducible apply Cs.put)) <;> first | rfl | (simp; done))).after hb)
        have HE := Lib.hid ho.read
        have hec := own_cap ho
        clear ho
        clear hb
        have lmx1 := Cmx1.out.1
        have lnx1 := Cnx1.out.1
        generalize applyL c (MW.take cut) = c2 at *
        clear hp2 heq
        have H72 := H7.out
        by_cases hc7 : cut = 7
        · rw [if_pos hc7] at hm2
          subst hm2
          simp only at HB4
          have hq1 : decide (cut < MW.length) = false := decide_eq_false (by omega)
          have hq2 : decide ((cut : Int) < (MW.length : Int)) = false := decide_eq_false (by omega)
          have hq3 : ¬ ((cut : Int) < (MW.length : Int)) := by omega
          clear H72 hc7
          have hself2 := HE2.out
          go_wp2_with (fail)
          go_at_call 26
          refine (HB4.out E eq _ HE.out hec).mono ?_
          rintro e x2 ⟨rfl, hb⟩
          have hxz2 := hb.size
          try simp at hxz2
          have HBx2 : Hid (Below w.heap.size w x2) := Lib.hid (below_then' (by repeat (first | with_reducible exact HBx1.out | with_reducible refine blw_alloc ?_ _ | with_reducible refine Below.drew ?_ | with_reducible refine blw_step ?_ _ | with_reducible refine Below.setCell (p := ⟨_, _, none⟩) ?_ (by first | exact Nat.le_refl _ | (simp; done) | (simp; omega) | omega) _)) hb)
          have Cmx2 : Hid (Cs x2 (w2.heap.size) [.int .i64 a0, .int .i64 a1, .int .i64 a2, .int .i64 a3, .int .u64 (a4 : Int), .int .i64 a5, .int .i64 a6]) := Lib.hid ((show Cs _ (w2.heap.size) [.int .i64 a0, .int .i64 a1, .int .i64 a2, .int .i64 a3, .int .u64 (a4 : Int), .int .i64 a5, .int .i64 a6] from (by (repeat (first | with_reducible exact Cmx1.out | (with_reducible refine Cs.new ?_; focus (first | rfl | (simp; done) | omega)) | with_reducible refine Cs.alloc ?_ _ | with_reducible refine Cs.drew ?_ | with_reducible refine Cs.drewN ?_ _ | (with_reducible refine Cs.other ?_ ?_ _; focus (first | omega | (simp; done) | (simp; omega))) | with_reducible apply Cs.put)) <;> first | rfl | (simp; done))).after hb)
          have Cnx2 : Hid (Cs x2 (w5.heap.size) [.int .i64 b0, .int .i64 b1, .int .i64 b2, .int .i64 b3, .int .u64 (b4 : Int), .int .i64 b5, .int .i64 b6]) := Lib.hid ((show Cs _ (w5.heap.size) [.int .i64 b0, .int .i64 b1, .int .i64 b2, .int .i64 b3, .int .u64 (b4 : Int), .int .i64 b5, .int .i64 b6] from (by (repeat (first | with_reducible exact Cnx1.out | (with_reducible refine Cs.new ?_; focus (first | rfl | (simp; done) | omega)) | with_reducible refine Cs.alloc ?_ _ | with_reducible refine Cs.drew ?_ | with_reducible refine Cs.drewN ?_ _ | (with_reducible refine Cs.other ?_ ?_ _; focus (first | omega | (simp; done) | (simp; omega))) | with_reducible apply Cs.put)) <;> first | rfl | (simp; done))).after hb)
          clear hb
          have lmx2 := Cmx2.out.1
          have mx2g0 := (Cmx2.out.at 0 rfl).1
          have mx2g1 := (Cmx2.out.at 1 rfl).1
          have mx2g2 := (Cmx2.out.at 2 rfl).1
          have mx2g3 := (Cmx2.out.at 3 rfl).1
          have mx2g4 := (Cmx2.out.at 4 rfl).1
          have mx2g5 := (Cmx2.out.at 5 rfl).1
          have mx2g6 := (Cmx2.out.at 6 rfl).1
          have lnx2 := Cnx2.out.1
          have nx2g0 := (Cnx2.out.at 0 rfl).1
          have nx2g1 := (Cnx2.out.at 1 rfl).1
          have nx2g2 := (Cnx2.out.at 2 rfl).1
          have nx2g3 := (Cnx2.out.at 3 rfl).1
          have nx2g4 := (Cnx2.out.at 4 rfl).1
          have nx2g5 := (Cnx2.out.at 5 rfl).1
          have nx2g6 := (Cnx2.out.at 6 rfl).1
          go_wp2_with fail
          go_ret
          exact ⟨rfl, blw_alloc HBx2.out _⟩
        · rw [if_neg hc7] at hm2
          subst hm2
          simp only at HB4
          have hq1 : decide (cut < MW.length) = true := decide_eq_true (by omega)
          have hq2 : decide ((cut : Int) < (MW.length : Int)) = true := decide_eq_true (by omega)
          have hq3 :  ((cut : Int) < (MW.length : Int)) := by omega
          clear H72 hc7
          have hself2 := HE1.out
          go_wp2_with (fail)
          go_at_call 26
          refine (HB4.out E eq _ HE.out hec).mono ?_
          rintro e x2 ⟨rfl, hb⟩
          have hxz2 := hb.size
          try simp at hxz2
          have HBx2 : Hid (Below w.heap.size w x2) := Lib.hid (below_then' (by repeat (first | with_reducible exact HBx1.out | with_reducible refine blw_alloc ?_ _ | with_reducible refine Below.drew ?_ | with_reducible refine blw_step ?_ _ | with_reducible refine Below.setCell (p := ⟨_, _, none⟩) ?_ (by first | exact Nat.le_refl _ | (simp; done) | (simp; omega) | omega) _)) hb)
          have Cmx2 : Hid (Cs x2 (w2.heap.size) [.int .i64 a0, .int .i64 a1, .int .i64 a2, .int .i64 a3, .int .u64 (a4 : Int), .int .i64 a5, .int .i64 a6]) := Lib.hid ((show Cs _ (w2.heap.size) [.int .i64 a0, .int .i64 a1, .int .i64 a2, .int .i64 a3, .int .u64 (a4 : Int), .int .i64 a5, .int .i64 a6] from (by (repeat (first | with_reducible exact Cmx1.out | (with_reducible refine Cs.new ?_; focus (first | rfl | (simp; done) | omega)) | with_reducible refine Cs.alloc ?_ _ | with_reducible refine Cs.drew ?_ | with_reducible refine Cs.drewN ?_ _ | (with_reducible refine Cs.other ?_ ?_ _; focus (first | omega | (simp; done) | (simp; omega))) | with_reducible apply Cs.put)) <;> first | rfl | (simp; done))).after hb)
          have Cnx2 : Hid (Cs x2 (w5.heap.size) [.int .i64 b0, .int .i64 b1, .int .i64 b2, .int .i64 b3, .int .u64 (b4 : Int), .int .i64 b5, .int .i64 b6]) := Lib.hid ((show Cs _ (w5.heap.size) [.int .i64 b0, .int .i64 b1, .int .i64 b2, .int .i64 b3, .int .u64 (b4 : Int), .int .i64 b5, .int .i64 b6] from (by (repeat (first | with_reducible exact Cnx1.out | (with_reducible refine Cs.new ?_; focus (first | rfl | (simp; done) | omega)) | with_reducible refine Cs.alloc ?_ _ | with_reducible refine Cs.drew ?_ | with_reducible refine Cs.drewN ?_ _ | (with_reducible refine Cs.other ?_ ?_ _; focus (first | omega | (simp; done) | (simp; omega))) | with_reducible apply Cs.put)) <;> first | rfl | (simp; done))).after hb)
          clear hb
          have lmx2 := Cmx2.out.1
          have mx2g0 := (Cmx2.out.at 0 rfl).1
          have mx2g1 := (Cmx2.out.at 1 rfl).1
          have mx2g2 := (Cmx2.out.at 2 rfl).1
          have mx2g3 := (Cmx2.out.at 3 rfl).1
          have mx2g4 := (Cmx2.out.at 4 rfl).1
          have mx2g5 := (Cmx2.out.at 5 rfl).1
          have mx2g6 := (Cmx2.out.at 6 rfl).1
          have lnx2 := Cnx2.out.1
          have nx2g0 := (Cnx2.out.at 0 rfl).1
          have nx2g1 := (Cnx2.out.at 1 rfl).1
          have nx2g2 := (Cnx2.out.at 2 rfl).1
          have nx2g3 := (Cnx2.out.at 3 rfl).1
          have nx2g4 := (Cnx2.out.at 4 rfl).1
          have nx2g5 := (Cnx2.out.at 5 rfl).1
          have nx2g6 := (Cnx2.out.at 6 rfl).1
          go_wp2_with fail
          go_ret
          exact ⟨rfl, blw_alloc HBx2.out _⟩
  · rw [if_pos rfl] at e4
    obtain ⟨xcl, xid, xam, xtag⟩ := x
    obtain ⟨tcl, tid, tam, ttag⟩ := T
    obtain ⟨ucl, uid, uam, utag⟩ := T2
    simp only at e1 e2 e3 e4 tg0 tg1
    subst e1 e2 e3 e4
    unfold Tk.vals at *
    simp only at HSD HF HKY ⊢
    go_enter Tryd.func11, Tryd.ntmps11
    go_wp2_with fail
    go_at_call 17
    refine (HPM.out _).mono ?_
    rintro e w' ⟨rfl, rfl⟩
    go_wp2_with (fail)
    go_at_call 32
    refine (HAT.out _ (HL.out.below (blw_alloc (Below.refl _ _) _))).mono ?_
    rintro e w1 ⟨c, B, p, O, oq, rfl, hpk, ho, hop, hb⟩
    have hwz1 := hb.size
    try simp at hwz1
    have HBw1 : Hid (Below w.heap.size w w1) := Lib.hid (below_then' (by repeat (first | with_reducible exact Below.refl _ _ | with_reducible refine blw_alloc ?_ _ | with_reducible refine Below.drew ?_ | with_reducible refine blw_step ?_ _ | with_reducible refine Below.setCell (p := ⟨_, _, none⟩) ?_ (by first | exact Nat.le_refl _ | (simp; done) | (simp; omega) | omega) _)) hb)
    have Cxw1 : Hid (Cs w1 (w.heap.size) [.int .i64 xcl, .int .i64 xid, .int .i64 xam, .int .i64 xtag]) := Lib.hid ((show Cs _ (w.heap.size) [.int .i64 xcl, .int .i64 xid, .int .i64 xam, .int .i64 xtag] from (by (repeat (first | (with_reducible refine Cs.new ?_; focus (first | rfl | (simp; done) | omega)) | with_reducible refine Cs.alloc ?_ _ | with_reducible refine Cs.drew ?_ | with_reducible refine Cs.drewN ?_ _ | (with_reducible refine Cs.other ?_ ?_ _; focus (first | omega | (simp; done) | (simp; omega))) | with_reducible apply Cs.put)) <;> first | rfl | (simp; done))).after hb)
    have HWB := Lib.hid (fun (W : World) (h : Below w1.heap.size w1 W) => ho.read.below h)
    have HOB := Lib.hid (fun (W : World) (h : Below w1.heap.size w1 W) => hop.read.below h)
    have HBL := Lib.hid (fun ad (e : B = some ad) => (show ad.block ≠ w1.heap.size from by have := (ho.lt ad.block (by rw [e]; rfl)).2; omega))
    have hcap := own_cap ho
    have hnil := hop.nil_of
    have HPc := Lib.hid hpk
    clear ho hop hpk
    clear hb
    have lxw1 := Cxw1.out.1
    have hs1 := HBw1.out.size
    obtain ⟨s, hs⟩ := HPc.out.newer
    have HB2 := Lib.hid (fun W hc => HBT.out c m B p W hc HPc.out hcap)
    have HKD2 := Lib.hid (fun D dq W hc hr => HKD.out c s B p D dq W hc HPc.out hs hcap hr)
    have hpk2 := hmv.out c s HPc.out hs
    have hcutf := fun hl => cut_pk (s := s) (k := cut) (old := m) (next := K1) HPc.out hs hl
    have hin2 := moved_in (s := s) (old := m) (next := K1) HPc.out.len (newer_lt hs)
    have hcl := HPc.out.len
    have hln := moved_len c s m K1
    have hzz : eqM m K1 = true → movedW c s m K1 = [] := fun h => by unfold movedW; rw [h, if_pos rfl]
    have hnn : eqM m K1 = false → (movedW c s m K1).length = 7 := fun h => by unfold movedW; rw [h, if_neg (by simp), storeW_len]; rfl
    have hk2 : (movedW c s m K1).length = 7 → ∃ m2 : Mt, Pk (applyL c ((movedW c s m K1).take cut)) m2 ∧ m2 = if cut = 7 then K1 else m := by
      intro h7
      by_cases hc7 : cut = 7
      · rw [List.take_of_length_le (by omega), if_pos hc7]
        exact ⟨_, hpk2, rfl⟩
      · rw [if_neg hc7]
        exact ⟨m, hcutf (by omega), rfl⟩
    have HK2 := Lib.hid hk2
    have HAP := Lib.hid (fun G g W hc hw hg (h7 : (movedW c s m K1).length = 7) => apply_any c (movedW c s m K1) cut (cut : Int) B G p g W hc hw (by omega) (by omega) (by omega) hg hin2 rfl (by omega))
    have HZZ := Lib.hid hzz
    have HNN := Lib.hid hnn
    have HB3 := Lib.hid (fun c2 m2 E eq W hc hk hq => HBT.out c2 m2 E eq W hc hk hq)
    clear hpk2 hcutf hin2 hcl hln hzz hnn hk2 hs HKD HBT hmv HAT
    generalize movedW c s m K1 = MW at *
    obtain ⟨a0, a1, a2, a3, a4, a5, a6⟩ := m
    obtain ⟨b0, b1, b2, b3, b4, b5, b6⟩ := K1
    simp only at HME
    unfold Mt.vals at *
    simp only at HB2 HKY HKD2 HSD HEQ HE1 HE2
    go_wp2_with (fail)
    go_at_call 26
    refine (HB2.out _ (HWB.out _ (by repeat (first | with_reducible exact Below.refl _ _ | with_reducible refine blw_alloc ?_ _ | with_reducible refine Below.drew ?_ | with_reducible refine blw_step ?_ _ | with_reducible refine Below.setCell (p := ⟨_, _, none⟩) ?_ (by first | exact Nat.le_refl _ | (simp; done) | (simp; omega) | omega) _)))).mono ?_
    rintro e w2 ⟨rfl, hb⟩
    have hwz2 := hb.size
    try simp at hwz2
    have HBw2 : Hid (Below w.heap.size w w2) := Lib.hid (below_then' (by repeat (first | with_reducible exact HBw1.out | with_reducible refine blw_alloc ?_ _ | with_reducible refine Below.drew ?_ | with_reducible refine blw_step ?_ _ | with_reducible refine Below.setCell (p := ⟨_, _, none⟩) ?_ (by first | exact Nat.le_refl _ | (simp; done) | (simp; omega) | omega) _)) hb)
    have Cxw2 : Hid (Cs w2 (w.heap.size) [.int .i64 xcl, .int .i64 xid, .int .i64 xam, .int .i64 xtag]) := Lib.hid ((show Cs _ (w.heap.size) [.int .i64 xcl, .int .i64 xid, .int .i64 xam, .int .i64 xtag] from (by (repeat (first | with_reducible exact Cxw1.out | (with_reducible refine Cs.new ?_; focus (first | rfl | (simp; done) | omega)) | with_reducible refine Cs.alloc ?_ _ | with_reducible refine Cs.drew ?_ | with_reducible refine Cs.drewN ?_ _ | (with_reducible refine Cs.other ?_ ?_ _; focus (first | omega | (simp; done) | (simp; omega))) | with_reducible apply Cs.put)) <;> first | rfl | (simp; done))).after hb)
    have Cow2 : Hid (Cs w2 (w1.heap.size) [.slice O ps.length oq]) := Lib.hid ((show Cs _ (w1.heap.size) [.slice O ps.length oq] from (by (repeat (first | (with_reducible refine Cs.new ?_; focus (first | rfl | (simp; done) | omega)) | with_reducible refine Cs.alloc ?_ _ | with_reducible refine Cs.drew ?_ | with_reducible refine Cs.drewN ?_ _ | (with_reducible refine Cs.other ?_ ?_ _; focus (first | omega | (simp; done) | (simp; omega))) | with_reducible apply Cs.put)) <;> first | rfl | (simp; done))).after hb)
    have hw12 : Hid (Below w1.heap.size w1 w2) := Lib.hid (below_then' (by repeat (first | with_reducible exact Below.refl _ _ | with_reducible refine blw_alloc ?_ _ | with_reducible refine Below.drew ?_ | with_reducible refine blw_step ?_ _ | with_reducible refine Below.setCell (p := ⟨_, _, none⟩) ?_ (by first | exact Nat.le_refl _ | (simp; done) | (simp; omega) | omega) _)) hb)
    clear hb
    have lxw2 := Cxw2.out.1
    have xw2g0 := (Cxw2.out.at 0 rfl).1
    have xw2g1 := (Cxw2.out.at 1 rfl).1
    have xw2g2 := (Cxw2.out.at 2 rfl).1
    have xw2g3 := (Cxw2.out.at 3 rfl).1
    have low2 := Cow2.out.1
    have ow2g0 := (Cow2.out.at 0 rfl).1
    have ow2f0 := (Cow2.out.at 0 rfl).2
    have hs2 := HBw2.out.size
    go_wp2_with (fail)
    go_at_call 33
    refine (HSD.out O oq _ (HOB.out _ (by repeat (first | with_reducible exact hw12.out | with_reducible refine blw_alloc ?_ _ | with_reducible refine Below.drew ?_ | with_reducible refine blw_step ?_ _ | with_reducible refine Below.setCell (p := ⟨_, _, none⟩) ?_ (by first | exact Nat.le_refl _ | (simp; done) | (simp; omega) | omega) _))) hnil).mono ?_
    rintro e w3 ⟨D, dq, rfl, hd, hb⟩
    have hwz3 := hb.size
    try simp at hwz3
    have HBw3 : Hid (Below w.heap.size w w3) := Lib.hid (below_then' (by repeat (first | with_reducible exact HBw2.out | with_reducible refine blw_alloc ?_ _ | with_reducible refine Below.drew ?_ | with_reducible refine blw_step ?_ _ | with_reducible refine Below.setCell (p := ⟨_, _, none⟩) ?_ (by first | exact Nat.le_refl _ | (simp; done) | (simp; omega) | omega) _)) hb)
    have Cxw3 : Hid (Cs w3 (w.heap.size) [.int .i64 xcl, .int .i64 xid, .int .i64 xam, .int .i64 xtag]) := Lib.hid ((show Cs _ (w.heap.size) [.int .i64 xcl, .int .i64 xid, .int .i64 xam, .int .i64 xtag] from (by (repeat (first | with_reducible exact Cxw2.out | (with_reducible refine Cs.new ?_; focus (first | rfl | (simp; done) | omega)) | with_reducible refine Cs.alloc ?_ _ | with_reducible refine Cs.drew ?_ | with_reducible refine Cs.drewN ?_ _ | (with_reducible refine Cs.other ?_ ?_ _; focus (first | omega | (simp; done) | (simp; omega))) | with_reducible apply Cs.put)) <;> first | rfl | (simp; done))).after hb)
    have Cow3 : Hid (Cs w3 (w1.heap.size) [.slice O ps.length oq]) := Lib.hid ((show Cs _ (w1.heap.size) [.slice O ps.length oq] from (by (repeat (first | with_reducible exact Cow2.out | (with_reducible refine Cs.new ?_; focus (first | rfl | (simp; done) | omega)) | with_reducible refine Cs.alloc ?_ _ | with_reducible refine Cs.drew ?_ | with_reducible refine Cs.drewN ?_ _ | (with_reducible refine Cs.other ?_ ?_ _; focus (first | omega | (simp; done) | (simp; omega))) | with_reducible apply Cs.put)) <;> first | rfl | (simp; done))).after hb)
    have Cmw3 : Hid (Cs w3 (w2.heap.size) [.int .i64 a0, .int .i64 a1, .int .i64 a2, .int .i64 a3, .int .u64 (a4 : Int), .int .i64 a5, .int .i64 a6]) := Lib.hid ((show Cs _ (w2.heap.size) [.int .i64 a0, .int .i64 a1, .int .i64 a2, .int .i64 a3, .int .u64 (a4 : Int), .int .i64 a5, .int .i64 a6] from (by (repeat (first | (with_reducible refine Cs.new ?_; focus (first | rfl | (simp; done) | omega)) | with_reducible refine Cs.alloc ?_ _ | with_reducible refine Cs.drew ?_ | with_reducible refine Cs.drewN ?_ _ | (with_reducible refine Cs.other ?_ ?_ _; focus (first | omega | (simp; done) | (simp; omega))) | with_reducible apply Cs.put)) <;> first | rfl | (simp; done))).after hb)
    have hw13 : Hid (Below w1.heap.size w1 w3) := Lib.hid (below_then' (by repeat (first | with_reducible exact hw12.out | with_reducible refine blw_alloc ?_ _ | with_reducible refine Below.drew ?_ | with_reducible refine blw_step ?_ _ | with_reducible refine Below.setCell (p := ⟨_, _, none⟩) ?_ (by first | exact Nat.le_refl _ | (simp; done) | (simp; omega) | omega) _)) hb)
    have HD := Lib.hid hd.read
    have hdl := (Lib.hid (fun ad (e : D = some ad) => hd.lt ad.block (by rw [e]; rfl)))
    clear hd
    clear xw2g0 xw2g1 xw2g2 xw2g3 ow2g0 ow2f0 hb
    have lxw3 := Cxw3.out.1
    have low3 := Cow3.out.1
    have ow3g0 := (Cow3.out.at 0 rfl).1
    have ow3f0 := (Cow3.out.at 0 rfl).2
    have lmw3 := Cmw3.out.1
    have hs3 := HBw3.out.size
    go_upto_region 8 with fail
    obtain ⟨u, hu⟩ : ∃ u, u = (w3.setCell ⟨w1.heap.size, 0, none⟩ (.slice D ps2.length dq)).alloc (.cells #[.int .i64 ucl, .int .i64 uid, .int .i64 uam, .int .i64 ((ttag + 1) % 65536)] 27) := ⟨_, rfl⟩
    have HBu : Hid (Below w.heap.size w u) := Lib.hid (by rw [hu]; exact blw_alloc (HBw3.out.setCell (p := ⟨w1.heap.size, 0, none⟩) (by show w.heap.size ≤ w1.heap.size; omega) _) _)
    have Cou : Hid (Cs u w1.heap.size [.slice D ps2.length dq]) := Lib.hid (by rw [hu]; exact Cs.alloc (put1 Cow3.out) _)
    have Cmu : Hid (Cs u w2.heap.size [.int .i64 a0, .int .i64 a1, .int .i64 a2, .int .i64 a3, .int .u64 (a4 : Int), .int .i64 a5, .int .i64 a6]) := Lib.hid (by rw [hu]; exact Cs.alloc (Cs.other (by show w1.heap.size ≠ w2.heap.size; omega) Cmw3.out _) _)
    have Ctu : Hid (Cs u w3.heap.size [.int .i64 ucl, .int .i64 uid, .int .i64 uam, .int .i64 ((ttag + 1) % 65536)]) := Lib.hid (by rw [hu]; exact Cs.new (by simp))
    have HCu : Hid (RdE 1 encW u B c) := Lib.hid (by rw [hu]; exact (rdh (HWB.out w3 hw13.out) (fun ad e => heap_setCell_other _ _ _ _ (HBL.out ad e))).below (blw_alloc (Below.refl _ _) _))
    have HDu : Hid (RdE 4 Pr.enc u D ps2) := Lib.hid (by rw [hu]; exact (rdh HD.out (fun ad e => heap_setCell_other _ _ _ _ (by have := (hdl.out ad e).1; have h12 := hw12.out.size; simp at this; show ad.block ≠ w1.heap.size; omega))).below (blw_alloc (Below.refl _ _) _))
    rw [← hu]
    clear hu
    have lou := Cou.out.1
    have lmu := Cmu.out.1
    have ltu := Ctu.out.1
    have tu0 := (Ctu.out.at 0 rfl).1
    have tu1 := (Ctu.out.at 1 rfl).1
    have tu2 := (Ctu.out.at 2 rfl).1
    have tu3 := (Ctu.out.at 3 rfl).1
    clear ow3g0 ow3f0
    go_wp2_with (fail)
    go_at_call 14
    refine (HF.out _).mono ?_
    rintro e w4 ⟨rfl, hb⟩
    have hwz4 := hb.size
    try simp at hwz4
    have HBw4 : Hid (Below w.heap.size w w4) := Lib.hid (below_then' (by repeat (first | with_reducible exact HBu.out | with_reducible refine blw_alloc ?_ _ | with_reducible refine Below.drew ?_ | with_reducible refine blw_step ?_ _ | with_reducible refine Below.setCell (p := ⟨_, _, none⟩) ?_ (by first | exact Nat.le_refl _ | (simp; done) | (simp; omega) | omega) _)) hb)
    have Cow4 : Hid (Cs w4 (w1.heap.size) [.slice D ps2.length dq]) := Lib.hid ((show Cs _ (w1.heap.size) [.slice D ps2.length dq] from (by (repeat (first | with_reducible exact Cou.out | (with_reducible refine Cs.new ?_; focus (first | rfl | (simp; done) | omega)) | with_reducible refine Cs.alloc ?_ _ | with_reducible refine Cs.drew ?_ | with_reducible refine Cs.drewN ?_ _ | (with_reducible refine Cs.other ?_ ?_ _; focus (first | omega | (simp; done) | (simp; omega))) | with_reducible apply Cs.put)) <;> first | rfl | (simp; done))).after hb)
    have Cmw4 : Hid (Cs w4 (w2.heap.size) [.int .i64 a0, .int .i64 a1, .int .i64 a2, .int .i64 a3, .int .u64 (a4 : Int), .int .i64 a5, .int .i64 a6]) := Lib.hid ((show Cs _ (w2.heap.size) [.int .i64 a0, .int .i64 a1, .int .i64 a2, .int .i64 a3, .int .u64 (a4 : Int), .int .i64 a5, .int .i64 a6] from (by (repeat (first | with_reducible exact Cmu.out | (with_reducible refine Cs.new ?_; focus (first | rfl | (simp; done) | omega)) | with_reducible refine Cs.alloc ?_ _ | with_reducible refine Cs.drew ?_ | with_reducible refine Cs.drewN ?_ _ | (with_reducible refine Cs.other ?_ ?_ _; focus (first | omega | (simp; done) | (simp; omega))) | with_reducible apply Cs.put)) <;> first | rfl | (simp; done))).after hb)
    have Ctw4 : Hid (Cs w4 (w3.heap.size) [.int .i64 ucl, .int .i64 uid, .int .i64 uam, .int .i64 ((ttag + 1) % 65536)]) := Lib.hid ((show Cs _ (w3.heap.size) [.int .i64 ucl, .int .i64 uid, .int .i64 uam, .int .i64 ((ttag + 1) % 65536)] from (by (repeat (first | with_reducible exact Ctu.out | (with_reducible refine Cs.new ?_; focus (first | rfl | (simp; done) | omega)) | with_reducible refine Cs.alloc ?_ _ | with_reducible refine Cs.drew ?_ | with_reducible refine Cs.drewN ?_ _ | (with_reducible refine Cs.other ?_ ?_ _; focus (first | omega | (simp; done) | (simp; omega))) | with_reducible apply Cs.put)) <;> first | rfl | (simp; done))).after hb)
    have hwu4 : Hid (Below u.heap.size u w4) := Lib.hid (below_then' (by repeat (first | with_reducible exact Below.refl _ _ | with_reducible refine blw_alloc ?_ _ | with_reducible refine Below.drew ?_ | with_reducible refine blw_step ?_ _ | with_reducible refine Below.setCell (p := ⟨_, _, none⟩) ?_ (by first | exact Nat.le_refl _ | (simp; done) | (simp; omega) | omega) _)) hb)
    clear tu0 tu1 tu2 tu3 hb
    have low4 := Cow4.out.1
    have ow4g0 := (Cow4.out.at 0 rfl).1
    have lmw4 := Cmw4.out.1
    have mw4g0 := (Cmw4.out.at 0 rfl).1
    have mw4g1 := (Cmw4.out.at 1 rfl).1
    have mw4g2 := (Cmw4.out.at 2 rfl).1
    have mw4g3 := (Cmw4.out.at 3 rfl).1
    have mw4g4 := (Cmw4.out.at 4 rfl).1
    have mw4g5 := (Cmw4.out.at 5 rfl).1
    have mw4g6 := (Cmw4.out.at 6 rfl).1
    have ltw4 := Ctw4.out.1
    have tw4g0 := (Ctw4.out.at 0 rfl).1
    have tw4g1 := (Ctw4.out.at 1 rfl).1
    have tw4g2 := (Ctw4.out.at 2 rfl).1
    have tw4g3 := (Ctw4.out.at 3 rfl).1
    go_wp2_with (fail)
    go_at_call 34
    refine (HKY.out D dq _ (HDu.out.below (by repeat (first | with_reducible exact hwu4.out | with_reducible refine blw_alloc ?_ _ | with_reducible refine Below.drew ?_ | with_reducible refine blw_step ?_ _ | with_reducible refine Below.setCell (p := ⟨_, _, none⟩) ?_ (by first | exact Nat.le_refl _ | (simp; done) | (simp; omega) | omega) _)))).mono ?_
    rintro e w5 ⟨rfl, hb⟩
    have hwz5 := hb.size
    try simp at hwz5
    have HBw5 : Hid (Below w.heap.size w w5) := Lib.hid (below_then' (by repeat (first | with_reducible exact HBw4.out | with_reducible refine blw_alloc ?_ _ | with_reducible refine Below.drew ?_ | with_reducible refine blw_step ?_ _ | with_reducible refine Below.setCell (p := ⟨_, _, none⟩) ?_ (by first | exact Nat.le_refl _ | (simp; done) | (simp; omega) | omega) _)) hb)
    have Cow5 : Hid (Cs w5 (w1.heap.size) [.slice D ps2.length dq]) := Lib.hid ((show Cs _ (w1.heap.size) [.slice D ps2.length dq] from (by (repeat (first | with_reducible exact Cow4.out | (with_reducible refine Cs.new ?_; focus (first | rfl | (simp; done) | omega)) | with_reducible refine Cs.alloc ?_ _ | with_reducible refine Cs.drew ?_ | with_reducible refine Cs.drewN ?_ _ | (with_reducible refine Cs.other ?_ ?_ _; focus (first | omega | (simp; done) | (simp; omega))) | with_reducible apply Cs.put)) <;> first | rfl | (simp; done))).after hb)
    have Cmw5 : Hid (Cs w5 (w2.heap.size) [.int .i64 a0, .int .i64 a1, .int .i64 a2, .int .i64 a3, .int .u64 (a4 : Int), .int .i64 a5, .int .i64 a6]) := Lib.hid ((show Cs _ (w2.heap.size) [.int .i64 a0, .int .i64 a1, .int .i64 a2, .int .i64 a3, .int .u64 (a4 : Int), .int .i64 a5, .int .i64 a6] from (by (repeat (first | with_reducible exact Cmw4.out | (with_reducible refine Cs.new ?_; focus (first | rfl | (simp; done) | omega)) | with_reducible refine Cs.alloc ?_ _ | with_reducible refine Cs.drew ?_ | with_reducible refine Cs.drewN ?_ _ | (with_reducible refine Cs.other ?_ ?_ _; focus (first | omega | (simp; done) | (simp; omega))) | with_reducible apply Cs.put)) <;> first | rfl | (simp; done))).after hb)
    have hwu5 : Hid (Below u.heap.size u w5) := Lib.hid (below_then' (by repeat (first | with_reducible exact hwu4.out | with_reducible refine blw_alloc ?_ _ | with_reducible refine Below.drew ?_ | with_reducible refine blw_step ?_ _ | with_reducible refine Below.setCell (p := ⟨_, _, none⟩) ?_ (by first | exact Nat.le_refl _ | (simp; done) | (simp; omega) | omega) _)) hb)
    clear ow4g0 mw4g0 mw4g1 mw4g2 mw4g3 mw4g4 mw4g5 mw4g6 tw4g0 tw4g1 tw4g2 tw4g3 hb
    have low5 := Cow5.out.1
    have ow5g0 := (Cow5.out.at 0 rfl).1
    have lmw5 := Cmw5.out.1
    have hs5 := HBw5.out.size
    go_wp2_with (fail)
    go_at_call 24
    refine (HKD2.out D dq _ (HCu.out.below (by repeat (first | with_reducible exact hwu5.out | with_reducible refine blw_alloc ?_ _ | with_reducible refine Below.drew ?_ | with_reducible refine blw_step ?_ _ | with_reducible refine Below.setCell (p := ⟨_, _, none⟩) ?_ (by first | exact Nat.le_refl _ | (simp; done) | (simp; omega) | omega) _))) (HDu.out.below (by repeat (first | with_reducible exact hwu5.out | with_reducible refine blw_alloc ?_ _ | with_reducible refine Below.drew ?_ | with_reducible refine blw_step ?_ _ | with_reducible refine Below.setCell (p := ⟨_, _, none⟩) ?_ (by first | exact Nat.le_refl _ | (simp; done) | (simp; omega) | omega) _)))).mono ?_
    rintro e w6 ⟨G, g, rfl, hg, hb⟩
    have hwz6 := hb.size
    try simp at hwz6
    have HBw6 : Hid (Below w.heap.size w w6) := Lib.hid (below_then' (by repeat (first | with_reducible exact HBw5.out | with_reducible refine blw_alloc ?_ _ | with_reducible refine Below.drew ?_ | with_reducible refine blw_step ?_ _ | with_reducible refine Below.setCell (p := ⟨_, _, none⟩) ?_ (by first | exact Nat.le_refl _ | (simp; done) | (simp; omega) | omega) _)) hb)
    have Cmw6 : Hid (Cs w6 (w2.heap.size) [.int .i64 a0, .int .i64 a1, .int .i64 a2, .int .i64 a3, .int .u64 (a4 : Int), .int .i64 a5, .int .i64 a6]) := Lib.hid ((show Cs _ (w2.heap.size) [.int .i64 a0, .int .i64 a1, .int .i64 a2, .int .i64 a3, .int .u64 (a4 : Int), .int .i64 a5, .int .i64 a6] from (by (repeat (first | with_reducible exact Cmw5.out | (with_reducible refine Cs.new ?_; focus (first | rfl | (simp; done) | omega)) | with_reducible refine Cs.alloc ?_ _ | with_reducible refine Cs.drew ?_ | with_reducible refine Cs.drewN ?_ _ | (with_reducible refine Cs.other ?_ ?_ _; focus (first | omega | (simp; done) | (simp; omega))) | with_reducible apply Cs.put)) <;> first | rfl | (simp; done))).after hb)
    have Cnw6 : Hid (Cs w6 (w5.heap.size) [.int .i64 b0, .int .i64 b1, .int .i64 b2, .int .i64 b3, .int .u64 (b4 : Int), .int .i64 b5, .int .i64 b6]) := Lib.hid ((show Cs _ (w5.heap.size) [.int .i64 b0, .int .i64 b1, .int .i64 b2, .int .i64 b3, .int .u64 (b4 : Int), .int .i64 b5, .int .i64 b6] from (by (repeat (first | (with_reducible refine Cs.new ?_; focus (first | rfl | (simp; done) | omega)) | with_reducible refine Cs.alloc ?_ _ | with_reducible refine Cs.drew ?_ | with_reducible refine Cs.drewN ?_ _ | (with_reducible refine Cs.other ?_ ?_ _; focus (first | omega | (simp; done) | (simp; omega))) | with_reducible apply Cs.put)) <;> first | rfl | (simp; done))).after hb)
    have hwu6 : Hid (Below u.heap.size u w6) := Lib.hid (below_then' (by repeat (first | with_reducible exact hwu5.out | with_reducible refine blw_alloc ?_ _ | with_reducible refine Below.drew ?_ | with_reducible refine blw_step ?_ _ | with_reducible refine Below.setCell (p := ⟨_, _, none⟩) ?_ (by first | exact Nat.le_refl _ | (simp; done) | (simp; omega) | omega) _)) hb)
    have HG := Lib.hid hg.read
    have hgc := own_cap hg
    clear hg
    clear ow5g0 hb
    have lmw6 := Cmw6.out.1
    have mw6g0 := (Cmw6.out.at 0 rfl).1
    have mw6g1 := (Cmw6.out.at 1 rfl).1
    have mw6g2 := (Cmw6.out.at 2 rfl).1
    have mw6g3 := (Cmw6.out.at 3 rfl).1
    have mw6g4 := (Cmw6.out.at 4 rfl).1
    have mw6g5 := (Cmw6.out.at 5 rfl).1
    have mw6g6 := (Cmw6.out.at 6 rfl).1
    have lnw6 := Cnw6.out.1
    have nw6g0 := (Cnw6.out.at 0 rfl).1
    have nw6g1 := (Cnw6.out.at 1 rfl).1
    have nw6g2 := (Cnw6.out.at 2 rfl).1
    have nw6g3 := (Cnw6.out.at 3 rfl).1
    have nw6g4 := (Cnw6.out.at 4 rfl).1
    have nw6g5 := (Cnw6.out.at 5 rfl).1
    have nw6g6 := (Cnw6.out.at 6 rfl).1
    have hme := HME.out
    subst hme
    cases he : eqM ⟨a0, a1, a2, a3, a4, a5, a6⟩ ⟨b0, b1, b2, b3, b4, b5, b6⟩ with
    | true =>
        rw [he] at HEQ
        have heq := HEQ.out
        have hz := HZZ.out he
        have hz0 : MW.length = 0 := by rw [hz]; rfl
        have hz1 : ((MW.length : Int) == 0) = true := beq_iff_eq.mpr (by omega)
        have hz2 : (MW.length == 0) = true := beq_iff_eq.mpr hz0
        clear hz hz0 he
        go_upto_region 11 with fail
        go_quiet ((go_at_call 17; exact quiet_same (HPM.out _)))
        have HBq : Hid (Below w.heap.size w (w6.drewN nq)) := Lib.hid (blw_step HBw6.out nq)
        have Cmq := Lib.hid (Cmw6.out.drewN nq)
        have Cnq := Lib.hid (Cnw6.out.drewN nq)
        clear mw6g0 mw6g1 mw6g2 mw6g3 mw6g4 mw6g5 mw6g6 nw6g0 nw6g1 nw6g2 nw6g3 nw6g4 nw6g5 nw6g6
        go_wp2_with fail
        go_ret
        exact ⟨rfl, HBq.out⟩
    | false =>
        rw [he] at HEQ
        have heq := HEQ.out
        have h7 := HNN.out he
        have hz1 : ((MW.length : Int) == 0) = false := beq_eq_false_iff_ne.mpr (by omega)
        have hz2 : (MW.length == 0) = false := beq_eq_false_iff_ne.mpr (by omega)
        have H7 := Lib.hid h7
        clear h7 he
        go_upto_region 11 with fail
        go_quiet ((go_at_call 17; exact quiet_same (HPM.out _)))
        have HBq : Hid (Below w.heap.size w (w6.drewN nq)) := Lib.hid (blw_step HBw6.out nq)
        have Cmq := Lib.hid (Cmw6.out.drewN nq)
        have Cnq := Lib.hid (Cnw6.out.drewN nq)
        clear mw6g0 mw6g1 mw6g2 mw6g3 mw6g4 mw6g5 mw6g6 nw6g0 nw6g1 nw6g2 nw6g3 nw6g4 nw6g5 nw6g6
        have HCq := Lib.hid (HCu.out.below (blw_step hwu6.out nq))
        have HGq := Lib.hid (HG.out.below (blw_drewN _ _ nq))
        generalize w6.drewN nq = u7 at *
        have lmu7 := Cmq.out.1
        have lnu7 := Cnq.out.1
        have l7 : IntKind.i64.wrap ((MW.length : Int) + 1) = 8 := by have := H7.out; rw [this]; rfl
        have l8 : (MW.length : Int) + 1 = 8 := by have := H7.out; omega
        go_wp2_with fail
        go_at_call 17
        refine (HPK.out _).mono ?_
        rintro e w' ⟨rfl, rfl⟩
        clear l7 l8
        obtain ⟨m2, hp2, hm2⟩ := HK2.out H7.out
        have HB4 := Lib.hid (fun E eq W hc hq => HB3.out _ m2 E eq W hc hp2 hq)
        go_wp2_with (fail)
        go_at_call 25
        refine (HAP.out G g _ HCq.out HGq.out hgc H7.out).mono ?_
        rintro e x1 ⟨E, eq, rfl, ho, hb⟩
        have hxz1 := hb.size
        try simp at hxz1
        have HBx1 : Hid (Below w.heap.size w x1) := Lib.hid (below_then' (by repeat (first | with_reducible exact HBq.out | with_reducible refine blw_alloc ?_ _ | with_reducible refine Below.drew ?_ | with_reducible refine blw_step ?_ _ | with_reducible refine Below.setCell (p := ⟨_, _, none⟩) ?_ (by first | exact Nat.le_refl _ | (simp; done) | (simp; omega) | omega) _)) hb)
        have Cmx1 : Hid (Cs x1 (w2.heap.size) [.int .i64 a0, .int .i64 a1, .int .i64 a2, .int .i64 a3, .int .u64 (a4 : Int), .int .i64 a5, .int .i64 a6]) := Lib.hid ((show Cs _ (w2.heap.size) [.int .i64 a0, .int .i64 a1, .int .i64 a2, .int .i64 a3, .int .u64 (a4 : Int), .int .i64 a5, .int .i64 a6] from (by (repeat (first | with_reducible exact Cmq.out | (with_reducible refine Cs.new ?_; focus (first | rfl | (simp; done) | omega)) | with_reducible refine Cs.alloc ?_ _ | with_reducible refine Cs.drew ?_ | with_reducible refine Cs.drewN ?_ _ | (with_reducible refine Cs.other ?_ ?_ _; focus (first | omega | (simp; done) | (simp; omega))) | with_reducible apply Cs.put)) <;> first | rfl | (simp; done))).after hb)
        have Cnx1 : Hid (Cs x1 (w5.heap.size) [.int .i64 b0, .int .i64 b1, .int .i64 b2, .int .i64 b3, .int .u64 (b4 : Int), .int .i64 b5, .int .i64 b6]) := Lib.hid ((show Cs _ (w5.heap.size) [.int .i64 b0, .int .i64 b1, .int .i64 b2, .int .i64 b3, .int .u64 (b4 : Int), .int .i64 b5, .int .i64 b6] from (by (repeat (first | with_reducible exact Cnq.out | (with_reducible refine Cs.new ?_; focus (first | rfl | (simp; done) | omega)) | with_reducible refine Cs.alloc ?_ _ | with_reducible refine Cs.drew ?_ | with_reducible refine Cs.drewN ?_ _ | (with_reducible refine Cs.other ?_ ?_ _; focus (first | omega | (simp; done) | (simp; omega))) | with_reducible apply Cs.put)) <;> first | rfl | (simp; done))).after hb)
        have HE := Lib.hid ho.read
        have hec := own_cap ho
        clear ho
        clear hb
        have lmx1 := Cmx1.out.1
        have lnx1 := Cnx1.out.1
        generalize applyL c (MW.take cut) = c2 at *
        clear hp2 heq
        have H72 := H7.out
        by_cases hc7 : cut = 7
        · rw [if_pos hc7] at hm2
          subst hm2
          simp only at HB4
          have hq1 : decide (cut < MW.length) = false := decide_eq_false (by omega)
          have hq2 : decide ((cut : Int) < (MW.length : Int)) = false := decide_eq_false (by omega)
          have hq3 : ¬ ((cut : Int) < (MW.length : Int)) := by omega
          clear H72 hc7
          have hself2 := HE2.out
          go_wp2_with (fail)
          go_at_call 26
          refine (HB4.out E eq _ HE.out hec).mono ?_
          rintro e x2 ⟨rfl, hb⟩
          have hxz2 := hb.size
          try simp at hxz2
          have HBx2 : Hid (Below w.heap.size w x2) := Lib.hid (below_then' (by repeat (first | with_reducible exact HBx1.out | with_reducible refine blw_alloc ?_ _ | with_reducible refine Below.drew ?_ | with_reducible refine blw_step ?_ _ | with_reducible refine Below.setCell (p := ⟨_, _, none⟩) ?_ (by first | exact Nat.le_refl _ | (simp; done) | (simp; omega) | omega) _)) hb)
          have Cmx2 : Hid (Cs x2 (w2.heap.size) [.int .i64 a0, .int .i64 a1, .int .i64 a2, .int .i64 a3, .int .u64 (a4 : Int), .int .i64 a5, .int .i64 a6]) := Lib.hid ((show Cs _ (w2.heap.size) [.int .i64 a0, .int .i64 a1, .int .i64 a2, .int .i64 a3, .int .u64 (a4 : Int), .int .i64 a5, .int .i64 a6] from (by (repeat (first | with_reducible exact Cmx1.out | (with_reducible refine Cs.new ?_; focus (first | rfl | (simp; done) | omega)) | with_reducible refine Cs.alloc ?_ _ | with_reducible refine Cs.drew ?_ | with_reducible refine Cs.drewN ?_ _ | (with_reducible refine Cs.other ?_ ?_ _; focus (first | omega | (simp; done) | (simp; omega))) | with_reducible apply Cs.put)) <;> first | rfl | (simp; done))).after hb)
          have Cnx2 : Hid (Cs x2 (w5.heap.size) [.int .i64 b0, .int .i64 b1, .int .i64 b2, .int .i64 b3, .int .u64 (b4 : Int), .int .i64 b5, .int .i64 b6]) := Lib.hid ((show Cs _ (w5.heap.size) [.int .i64 b0, .int .i64 b1, .int .i64 b2, .int .i64 b3, .int .u64 (b4 : Int), .int .i64 b5, .int .i64 b6] from (by (repeat (first | with_reducible exact Cnx1.out | (with_reducible refine Cs.new ?_; focus (first | rfl | (simp; done) | omega)) | with_reducible refine Cs.alloc ?_ _ | with_reducible refine Cs.drew ?_ | with_reducible refine Cs.drewN ?_ _ | (with_reducible refine Cs.other ?_ ?_ _; focus (first | omega | (simp; done) | (simp; omega))) | with_reducible apply Cs.put)) <;> first | rfl | (simp; done))).after hb)
          clear hb
          have lmx2 := Cmx2.out.1
          have mx2g0 := (Cmx2.out.at 0 rfl).1
          have mx2g1 := (Cmx2.out.at 1 rfl).1
          have mx2g2 := (Cmx2.out.at 2 rfl).1
          have mx2g3 := (Cmx2.out.at 3 rfl).1
          have mx2g4 := (Cmx2.out.at 4 rfl).1
          have mx2g5 := (Cmx2.out.at 5 rfl).1
          have mx2g6 := (Cmx2.out.at 6 rfl).1
          have lnx2 := Cnx2.out.1
          have nx2g0 := (Cnx2.out.at 0 rfl).1
          have nx2g1 := (Cnx2.out.at 1 rfl).1
          have nx2g2 := (Cnx2.out.at 2 rfl).1
          have nx2g3 := (Cnx2.out.at 3 rfl).1
          have nx2g4 := (Cnx2.out.at 4 rfl).1
          have nx2g5 := (Cnx2.out.at 5 rfl).1
          have nx2g6 := (Cnx2.out.at 6 rfl).1
          go_wp2_with fail
          go_ret
          exact ⟨rfl, blw_alloc HBx2.out _⟩
        · rw [if_neg hc7] at hm2
          subst hm2
          simp only at HB4
          have hq1 : decide (cut < MW.length) = true := decide_eq_true (by omega)
          have hq2 : decide ((cut : Int) < (MW.length : Int)) = true := decide_eq_true (by omega)
          have hq3 :  ((cut : Int) < (MW.length : Int)) := by omega
          clear H72 hc7
          have hself2 := HE1.out
          go_wp2_with (fail)
          go_at_call 26
          refine (HB4.out E eq _ HE.out hec).mono ?_
          rintro e x2 ⟨rfl, hb⟩
          have hxz2 := hb.size
          try simp at hxz2
          have HBx2 : Hid (Below w.heap.size w x2) := Lib.hid (below_then' (by repeat (first | with_reducible exact HBx1.out | with_reducible refine blw_alloc ?_ _ | with_reducible refine Below.drew ?_ | with_reducible refine blw_step ?_ _ | with_reducible refine Below.setCell (p := ⟨_, _, none⟩) ?_ (by first | exact Nat.le_refl _ | (simp; done) | (simp; omega) | omega) _)) hb)
          have Cmx2 : Hid (Cs x2 (w2.heap.size) [.int .i64 a0, .int .i64 a1, .int .i64 a2, .int .i64 a3, .int .u64 (a4 : Int), .int .i64 a5, .int .i64 a6]) := Lib.hid ((show Cs _ (w2.heap.size) [.int .i64 a0, .int .i64 a1, .int .i64 a2, .int .i64 a3, .int .u64 (a4 : Int), .int .i64 a5, .int .i64 a6] from (by (repeat (first | with_reducible exact Cmx1.out | (with_reducible refine Cs.new ?_; focus (first | rfl | (simp; done) | omega)) | with_reducible refine Cs.alloc ?_ _ | with_reducible refine Cs.drew ?_ | with_reducible refine Cs.drewN ?_ _ | (with_reducible refine Cs.other ?_ ?_ _; focus (first | omega | (simp; done) | (simp; omega))) | with_reducible apply Cs.put)) <;> first | rfl | (simp; done))).after hb)
          have Cnx2 : Hid (Cs x2 (w5.heap.size) [.int .i64 b0, .int .i64 b1, .int .i64 b2, .int .i64 b3, .int .u64 (b4 : Int), .int .i64 b5, .int .i64 b6]) := Lib.hid ((show Cs _ (w5.heap.size) [.int .i64 b0, .int .i64 b1, .int .i64 b2, .int .i64 b3, .int .u64 (b4 : Int), .int .i64 b5, .int .i64 b6] from (by (repeat (first | with_reducible exact Cnx1.out | (with_reducible refine Cs.new ?_; focus (first | rfl | (simp; done) | omega)) | with_reducible refine Cs.alloc ?_ _ | with_reducible refine Cs.drew ?_ | with_reducible refine Cs.drewN ?_ _ | (with_reducible refine Cs.other ?_ ?_ _; focus (first | omega | (simp; done) | (simp; omega))) | with_reducible apply Cs.put)) <;> first | rfl | (simp; done))).after hb)
          clear hb
          have lmx2 := Cmx2.out.1
          have mx2g0 := (Cmx2.out.at 0 rfl).1
          have mx2g1 := (Cmx2.out.at 1 rfl).1
          have mx2g2 := (Cmx2.out.at 2 rfl).1
          have mx2g3 := (Cmx2.out.at 3 rfl).1
          have mx2g4 := (Cmx2.out.at 4 rfl).1
          have mx2g5 := (Cmx2.out.at 5 rfl).1
          have mx2g6 := (Cmx2.out.at 6 rfl).1
          have lnx2 := Cnx2.out.1
          have nx2g0 := (Cnx2.out.at 0 rfl).1
          have nx2g1 := (Cnx2.out.at 1 rfl).1
          have nx2g2 := (Cnx2.out.at 2 rfl).1
          have nx2g3 := (Cnx2.out.at 3 rfl).1
          have nx2g4 := (Cnx2.out.at 4 rfl).1
          have nx2g5 := (Cnx2.out.at 5 rfl).1
          have nx2g6 := (Cnx2.out.at 6 rfl).1
          go_wp2_with fail
          go_ret
          exact ⟨rfl, blw_alloc HBx2.out _⟩
end Go.Proofs.YtccjcdecpgigpaaDoor.PocketCut
