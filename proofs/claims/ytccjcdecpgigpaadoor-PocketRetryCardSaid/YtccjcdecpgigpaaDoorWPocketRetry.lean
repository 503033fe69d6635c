/- The walk of PocketRetry. -/
import Derived.Test.YtccjcdecpgigpaaDoorPock6
namespace Go.Proofs.YtccjcdecpgigpaaDoor.PocketRetry
open Go Go.RowKit Go.Proofs.YtccjcdecpgigpaaDoor.Base Go.Proofs.YtccjcdecpgigpaaDoor.Met Go.Proofs.YtccjcdecpgigpaaDoor.Win Go.Proofs.YtccjcdecpgigpaaDoor.Cell Go.Proofs.YtccjcdecpgigpaaDoor.Orc Go.Proofs.YtccjcdecpgigpaaDoor.Tok Go.Proofs.YtccjcdecpgigpaaDoor.Pock
set_option linter.unusedVariables false
set_option linter.unusedSimpArgs false
set_option maxRecDepth 20000
theorem rdh {α : Type} {size : Nat} {enc : α → List Value} {W W' : World} {A : Option Addr} {xs : List α} (h : RdE size enc W A xs) (he : ∀ ad, A = some ad → W'.heap[ad.block]? = W.heap[ad.block]?) : RdE size enc W' A xs :=
  ⟨h.1, fun hn => by
    obtain ⟨ad, e, hc⟩ := h.2 hn
    subst e
    refine ⟨ad, rfl, fun i x hx j u hu => ?_⟩
    have h1 := hc i x hx j u hu
    exact (World.cell?_of_block (by rw [add_block]; exact he ad rfl)).trans h1⟩
theorem moved_self {c : List UInt32} {s : Nat} {m : Mt} : movedW c s m m = [] := by unfold movedW; rw [(eqM_iff m m).2 rfl, if_pos rfl]
/-- A credit token that was sold to the meter, keyed: taken and used up, or nothing at all. -/
theorem sold_once (m : Mt) (ps : List Pr) (T : Tk) (ok : m.ok) (hm : mmay m = true) (hg : faultI T = 0) (hc : T.cl = 0) (hv : verB ps m.me m.rev (bodyI T) T.tag = true) :
    ((keyR m ps T).2.2 ≠ 0 ∧ (keyR m ps T).1 = m ∧ (keyR m ps T).2.1 = 0) ∨
    ((keyR m ps T).2.2 = 0 ∧ (keyR m ps T).2.1 = T.am ∧ (keyR m ps T).1.cr = m.cr + T.am ∧ keyR (keyR m ps T).1 ps T = ((keyR m ps T).1, 0, 14)) := by
  obtain ⟨⟨⟨l0, l1⟩, ⟨l2, l3⟩, l4, l5⟩, ⟨⟨l6, l7⟩, ⟨l8, l9⟩, _⟩, hw⟩ := Met.mmay_lim hm
  obtain ⟨_, ⟨i0, i1⟩, ⟨am0, am1⟩, _, _⟩ := fault_ok hg
  have hB : m.wb < 18446744073709551616 := ok.2.1.2
  by_cases hl : m.lock = 0
  · have hk := key_sold m ps T hg hl (by rw [hc]; decide) l2 hv
    by_cases hj : judgeI m.wh m.wb T.id = 0
    · have ht := take_credit m T hj hc
      by_cases hf : m.cr + T.am > 99999999
      · rw [if_pos hf] at ht
        rw [hk, ht]
        exact .inl ⟨by simp, rfl, rfl⟩
      · rw [if_neg hf] at ht
        rw [hk, ht]
        refine .inr ⟨rfl, rfl, rfl, ?_⟩
        have hk2 := key_sold { m with cr := m.cr + T.am, wh := takeH m.wh T.id, wb := takeB m.wh m.wb T.id, bad := 0 } ps T hg hl (by rw [hc]; decide) l2 hv
        have hi := inv_take (inv_of hw hB) T.id i0 i1 hj
        have hj2 : judgeI (takeH m.wh T.id) (takeB m.wh m.wb T.id) T.id = 14 := by
          rw [judge_inv hi T.id, if_neg, if_pos (by simp)]
          obtain ⟨j0, _⟩ := judge_ok hj
          unfold takeH
          split <;> omega
        rw [hk2]
        unfold takeR
        simp only
        rw [if_neg (by rw [hj2]; decide), hj2]
    · have e : takeR m T 0 = (m, 0, judgeI m.wh m.wb T.id) := by unfold takeR; rw [if_neg hj]
      rw [hk, e]
      exact .inl ⟨hj, rfl, rfl⟩
  · have e : keyR m ps T = (m, 0, 10) := by
      unfold keyR
      rw [if_neg (by simp [hg]), if_pos (by omega)]
    rw [e]
    exact .inl ⟨by simp, rfl, rfl⟩
/-- Between two tries: the words hold the meter still. -/
def TRel (m : Mt) (cuts : List Int) (w : World) (bo bm bt : Nat) (oc mc tc : List Value) (D : Option Addr) (ps : List Pr) (mm : Nat) (b i : Value) (wr : World) : Prop :=
  ∃ (k : Nat) (c : List UInt32) (B : Option Addr) (p : Nat), mm + k = cuts.length ∧ k ≤ 8 ∧ k ≤ cuts.length ∧ i = .int .i64 k ∧ b = .slice B c.length p ∧ c.length ≤ p ∧ Pk c m ∧ RdE 1 encW wr B c ∧ Cs wr bo oc ∧ Cs wr bm mc ∧ Cs wr bt tc ∧ RdE 4 Pr.enc wr D ps ∧ Below w.heap.size w wr
set_option maxHeartbeats 16000000 in
theorem walk (me : Int) (l : List Tk) (L : Option Addr) (lq : Nat) (x : Tk) (xs : List Value) (cuts : List Int) (U : Option Addr) (uq : Nat) (w : World) (w1 : (Lit.int .i64 me).wf = true) (hl : RdE 4 (fun t : Tk => t.vals.toList) w L l) (hok : ∀ t ∈ l, t.ok) (hx : xs = x.vals.toList ∧ x.ok) (hu : RdE 1 Base.encI w U cuts) (hq : ∀ x ∈ cuts, (Lit.int .i64 x).wf = true) :
    Calls Tryd.prog 12 #[.int .i64 me, .slice L l.length lq, .agg xs.toArray, .slice U cuts.length uq] w fun e w' => e = .returned (.bool true) ∧ Below w.heap.size w w' := by
  obtain ⟨rfl, xok⟩ := hx
  rw [show x.vals.toList.toArray = x.vals by simp]
  obtain ⟨m0, m1⟩ := i64_bound w1
  clear w1
  have hmu := hu.1
  have HQ := Lib.hid (fun x hx => i64_bound (hq x hx))
  have RU := Lib.hid hu
  clear hu hq
  have HPM := Lib.hid (fun W => picked_any me 50 W m0 m1 (by omega))
  obtain ⟨p0, p1⟩ := pk_bound me 50 (by decide)
  generalize pk me 50 = me' at *
  have HL := Lib.hid hl
  have HAT := Lib.hid (fun W hL => pocketAt_any me' l L lq W p0 p1 hL hok)
  have hin := PInv.all p0 p1 (l.take 12) (by rw [List.length_take]; omega)
  have hn : (l.take 12).length ≤ 12 := by rw [List.length_take]; omega
  generalize (l.take 12).length = n at *
  generalize pockS me' (l.take 12) = st at *
  obtain ⟨m, ps⟩ := st
  have hkept := hin.kept
  obtain ⟨lm1, lm2⟩ := hin.lim
  simp only at HAT hkept lm1 lm2
  have hkl2 := hkept.len
  obtain ⟨y, hy⟩ : ∃ y : Tk, y = { x with cl := 0 } := ⟨_, rfl⟩
  have yok : y.ok := by rw [hy]; exact ⟨⟨⟨by show -9223372036854775808 ≤ (0 : Int); omega, by show (0 : Int) ≤ 9223372036854775807; omega⟩, xok.1.2⟩, xok.2⟩
  have HSD := Lib.hid (fun O oq W hW hnil => sold_any ps O oq m y W hW hkept.ok hkept.good hnil lm1 lm2 yok (.inr (by omega)))
  have hiss := hin.iss (by omega) y
  have hgt := soldT_good ps m.me m.rev y hkept.good
  have hcl : (soldT ps m.me m.rev y).cl = 0 := by rw [hy]; rfl
  have hver : verB (issL ps m.me m.rev (bodyI (Met.madeT y)) (Met.madeT y).tag) m.me m.rev (bodyI (soldT ps m.me m.rev y)) (soldT ps m.me m.rev y).tag = true := ver_iss ps m.me m.rev (bodyI (Met.madeT y)) (Met.madeT y).tag
  have hlim := sold_lim ps m.me m.rev y hkept.good
  unfold psOf at hiss
  simp only at HSD hiss
  generalize issL ps m.me m.rev (bodyI (Met.madeT y)) (Met.madeT y).tag = ps2 at *
  generalize soldT ps m.me m.rev y = T at *
  obtain ⟨_, ⟨am0, am1⟩, ampos⟩ := hlim
  have hap := ampos hcl
  have honce := sold_once m ps2 T hin.ok hin.may hgt hcl hver
  have HF := Lib.hid (fun W => format_yes T hgt W)
  have hfl := fmtS_list T
  obtain ⟨pf1, pf2⟩ := parse_fmt hgt
  have hke : ∀ m : Mt, keyedR m ps2 (fmtS T).data.toList = keyR m ps2 T := fun m => by unfold keyedR; rw [hfl, if_pos pf1, pf2]
  have HKD := Lib.hid (fun m c s B p D dq W hc hk hs hq hr => Keyed_any c m ps2 (fmtS T) s B D p dq W hc hk hs hq hr hiss.ok hiss.good)
  simp only [hke] at HKD
  obtain ⟨kk1, kk2⟩ := key_keep m ps2 T hin.ok hin.may
  have HBT := Lib.hid (fun c m A q W hc hk hq => Boot_any c m A q W hc hk hq)
  have hcr0 : 0 ≤ m.cr ∧ m.cr ≤ 99999999 := by
    obtain ⟨⟨_, _, h1, h2⟩, _⟩ := Met.mmay_lim hin.may
    exact ⟨h1, h2⟩
  have HXY : Hid (y = ⟨0, x.id, x.am, x.tag⟩) := Lib.hid hy
  clear hin hkept hiss hgt hver hfl pf1 pf2 hke hl hok xok yok hkl2 lm1 lm2 hn hy ampos
  generalize fmtS T = S at *
  obtain ⟨xcl, xid, xam, xtag⟩ := x
  obtain ⟨ucl, uid, uam, utag⟩ := T
  simp only at hcl am0 am1 hap HXY
  subst hcl
  obtain rfl := HXY.out
  clear HXY
  unfold Tk.vals at *
  simp only at HSD HF
  rcases honce with ⟨o1, o2, o3⟩ | ⟨o1, o2, o3, o4⟩
  · have HKB : Hid (∀ (c : List UInt32) (B : Option Addr) (p : Nat) (D : Option Addr) (dq : Nat) (W : World), RdE 1 encW W B c → Pk c m → c.length ≤ p → RdE 4 Pr.enc W D ps2 → Calls Tryd.prog 24 #[.slice B c.length p, .agg #[.slice D ps2.length dq], .string S] W fun e w' => ∃ G g, e = .returned (.tuple #[.slice G 0 g, .int .i64 0, .int .i64 (keyR m ps2 ⟨0, uid, uam, utag⟩).2.2]) ∧ Below W.heap.size W w') := Lib.hid (by
      intro c B p D dq W hc hk hq hr
      obtain ⟨s, hs⟩ := hk.newer
      have h := HKD.out m c s B p D dq W hc hk hs hq hr
      rw [o2, moved_self, o3] at h
      exact h.mono fun e w' ⟨G, g, h1, _, h2⟩ => ⟨G, g, h1, h2⟩)
    generalize (keyR m ps2 ⟨0, uid, uam, utag⟩).2.2 = co at o1 HKB
    have co1 : (co == 0) = false := beq_eq_false_iff_ne.mpr o1
    have co2 : (co != 0) = true := bne_iff_ne.mpr o1
    clear o1 o2 o3 HKD kk1 kk2
    go_enter Tryd.func12, Tryd.ntmps12
    go_wp2_with fail
    go_at_call 17
    refine (HPM.out _).mono ?_
    rintro e w' ⟨rfl, rfl⟩
    go_wp2_with (fail)
    go_at_call 32
    refine (HAT.out _ (HL.out.below (blw_alloc (Below.refl _ _) _))).mono ?_
    rintro e w1 ⟨c, B, p, O, oq, rfl, hpk, ho, hop, hb⟩
    have hwz1 := hb.size
    try simp at hwz1
    have HBw1 : Hid (Below w.heap.size w w1) := Lib.hid (below_then' (by repeat (first | with_reducible exact Below.refl _ _ | with_reducible refine blw_alloc ?_ _ | with_reducible refine Below.drew ?_ | with_reducible refine blw_step ?_ _ | with_reducible refine Below.setCell (p := ⟨_, _, none⟩) ?_ (by first | exact Nat.le_refl _ | (simp; done) | (simp; omega) | omega) _)) hb)
    have Cxw1 : Hid (Cs w1 (w.heap.size) [.int .i64 xcl, .int .i64 xid, .int .i64 xam, .int .i64 xtag]) := Lib.hid ((show Cs _ (w.heap.size) [.int .i64 xcl, .int .i64 xid, .int .i64 xam, .int .i64 xtag] from (by (repeat (first | (with_reducible refine Cs.new ?_; focus (first | rfl | (simp; done) | omega)) | with_reducible refine Cs.alloc ?_ _ | with_reducible refine Cs.drew ?_ | with_reducible refine Cs.drewN ?_ _ | (with_reducible refine Cs.other ?_ ?_ _; focus (first | omega | (simp; done) | (simp; omega))) | with_reducible apply Cs.put)) <;> first | rfl | (simp; done))).after hb)
    have HWB := Lib.hid (fun (W : World) (h : Below w1.heap.size w1 W) => ho.read.below h)
    have HOB := Lib.hid (fun (W : World) (h : Below w1.heap.size w1 W) => hop.read.below h)
    have hbo := Lib.hid (fun ad (e : B = some ad) => ho.lt ad.block (by rw [e]; rfl))
    have hbp := Lib.hid (fun ad (e : O = some ad) => hop.lt ad.block (by rw [e]; rfl))
    have hcap := own_cap ho
    have hnil := hop.nil_of
    have HPc := Lib.hid hpk
    clear ho hop hpk
    clear hb
    have lxw1 := Cxw1.out.1
    have hs1 := HBw1.out.size
    have HB2 := Lib.hid (fun W hc => HBT.out c m B p W hc HPc.out hcap)
    obtain ⟨a0, a1, a2, a3, a4, a5, a6⟩ := m
    simp only at hcr0
    unfold Mt.vals at HB2 HSD
    simp only at HB2 HSD
    go_wp2_with (fail)
    go_at_call 26
    refine (HB2.out _ (HWB.out _ (by repeat (first | with_reducible exact Below.refl _ _ | with_reducible refine blw_alloc ?_ _ | with_reducible refine Below.drew ?_ | with_reducible refine blw_step ?_ _ | with_reducible refine Below.setCell (p := ⟨_, _, none⟩) ?_ (by first | exact Nat.le_refl _ | (simp; done) | (simp; omega) | omega) _)))).mono ?_
    rintro e w2 ⟨rfl, hb⟩
    have hwz2 := hb.size
    try simp at hwz2
    have HBw2 : Hid (Below w.heap.size w w2) := Lib.hid (below_then' (by repeat (first | with_reducible exact HBw1.out | with_reducible refine blw_alloc ?_ _ | with_reducible refine Below.drew ?_ | with_reducible refine blw_step ?_ _ | with_reducible refine Below.setCell (p := ⟨_, _, none⟩) ?_ (by first | exact Nat.le_refl _ | (simp; done) | (simp; omega) | omega) _)) hb)
    have Cxw2 : Hid (Cs w2 (w.heap.size) [.int .i64 xcl, .int .i64 xid, .int .i64 xam, .int .i64 xtag]) := Lib.hid ((show Cs _ (w.heap.size) [.int .i64 xcl, .int .i64 xid, .int .i64 xam, .int .i64 xtag] from (by (repeat (first | with_reducible exact Cxw1.out | (with_reducible refine Cs.new ?_; focus (first | rfl | (simp; done) | omega)) | with_reducible refine Cs.alloc ?_ _ | with_reducible refine Cs.drew ?_ | with_reducible refine Cs.drewN ?_ _ | (with_reducible refine Cs.other ?_ ?_ _; focus (first | omega | (simp; done) | (simp; omega))) | with_reducible apply Cs.put)) <;> first | rfl | (simp; done))).after hb)
    have Cow2 : Hid (Cs w2 (w1.heap.size) [.slice O ps.length oq]) := Lib.hid ((show Cs _ (w1.heap.size) [.slice O ps.length oq] from (by (repeat (first | (with_reducible refine Cs.new ?_; focus (first | rfl | (simp; done) | omega)) | with_reducible refine Cs.alloc ?_ _ | with_reducible refine Cs.drew ?_ | with_reducible refine Cs.drewN ?_ _ | (with_reducible refine Cs.other ?_ ?_ _; focus (first | omega | (simp; done) | (simp; omega))) | with_reducible apply Cs.put)) <;> first | rfl | (simp; done))).after hb)
    have hw12 : Hid (Below w1.heap.size w1 w2) := Lib.hid (below_then' (by repeat (first | with_reducible exact Below.refl _ _ | with_reducible refine blw_alloc ?_ _ | with_reducible refine Below.drew ?_ | with_reducible refine blw_step ?_ _ | with_reducible refine Below.setCell (p := ⟨_, _, none⟩) ?_ (by first | exact Nat.le_refl _ | (simp; done) | (simp; omega) | omega) _)) hb)
    clear hb
    have lxw2 := Cxw2.out.1
    have xw2g0 := (Cxw2.out.at 0 rfl).1
    have xw2f0 := (Cxw2.out.at 0 rfl).2
    have xw2g1 := (Cxw2.out.at 1 rfl).1
    have xw2f1 := (Cxw2.out.at 1 rfl).2
    have xw2g2 := (Cxw2.out.at 2 rfl).1
    have xw2f2 := (Cxw2.out.at 2 rfl).2
    have xw2g3 := (Cxw2.out.at 3 rfl).1
    have xw2f3 := (Cxw2.out.at 3 rfl).2
    have low2 := Cow2.out.1
    have hs2 := HBw2.out.size
    have hs12 := hw12.out.size
    go_upto_region 6 with fail
    obtain ⟨v, hv⟩ : ∃ v, v = (w2.setCell ⟨w.heap.size, 0, none⟩ (.int .i64 0)).alloc (.cells #[.int .i64 a0, .int .i64 a1, .int .i64 a2, .int .i64 a3, .int .u64 (a4 : Int), .int .i64 a5, .int .i64 a6] 40) := ⟨_, rfl⟩
    rw [← hv]
    have HBv : Hid (Below w.heap.size w v) := Lib.hid (by rw [hv]; exact blw_alloc (HBw2.out.setCell (p := ⟨w.heap.size, 0, none⟩) (by exact Nat.le_refl _) _) _)
    have Cov : Hid (Cs v w1.heap.size [.slice O ps.length oq]) := Lib.hid (by rw [hv]; exact Cs.alloc (Cs.other (by show w.heap.size ≠ w1.heap.size; omega) Cow2.out _) _)
    have Cmv : Hid (Cs v w2.heap.size [.int .i64 a0, .int .i64 a1, .int .i64 a2, .int .i64 a3, .int .u64 (a4 : Int), .int .i64 a5, .int .i64 a6]) := Lib.hid (by rw [hv]; exact Cs.new (by simp))
    have Cxv : Hid (Cs v w.heap.size [.int .i64 0, .int .i64 xid, .int .i64 xam, .int .i64 xtag]) := Lib.hid (by rw [hv]; exact Cs.alloc (Cs.put (vs := [.int .i64 xcl, .int .i64 xid, .int .i64 xam, .int .i64 xtag]) Cxw2.out (by simp) rfl) _)
    have HCv : Hid (RdE 1 encW v B c) := Lib.hid (by rw [hv]; exact (rdh (HWB.out w2 hw12.out) (fun ad e => heap_setCell_other _ _ _ _ (by have := (hbo.out ad e).1; simp at this; show ad.block ≠ w.heap.size; omega))).below (blw_alloc (Below.refl _ _) _))
    have HOv : Hid (RdE 4 Pr.enc v O ps) := Lib.hid (by rw [hv]; exact (rdh (HOB.out w2 hw12.out) (fun ad e => heap_setCell_other _ _ _ _ (by have := (hbp.out ad e).1; simp at this; show ad.block ≠ w.heap.size; omega))).below (blw_alloc (Below.refl _ _) _))
    have hbB := Lib.hid (fun ad (e : B = some ad) => (show ad.block ≠ w1.heap.size by have := (hbo.out ad e).2; omega))
    have hszv : v.heap.size = w2.heap.size + 1 := by rw [hv]; simp
    clear hv
    have HSZ := Lib.hid hszv
    clear hszv
    clear xw2g0 xw2f0 xw2g1 xw2f1 xw2g2 xw2f2 xw2g3 xw2f3 hbo hbp HWB HOB
    have lov := Cov.out.1
    have lmv := Cmv.out.1
    have lxv := Cxv.out.1
    have ovg0 := (Cov.out.at 0 rfl).1
    have ovf0 := (Cov.out.at 0 rfl).2
    have mvg0 := (Cmv.out.at 0 rfl).1
    have mvg1 := (Cmv.out.at 1 rfl).1
    have mvg2 := (Cmv.out.at 2 rfl).1
    have mvg3 := (Cmv.out.at 3 rfl).1
    have mvg4 := (Cmv.out.at 4 rfl).1
    have mvg5 := (Cmv.out.at 5 rfl).1
    have mvg6 := (Cmv.out.at 6 rfl).1
    have xvg0 := (Cxv.out.at 0 rfl).1
    have xvg1 := (Cxv.out.at 1 rfl).1
    have xvg2 := (Cxv.out.at 2 rfl).1
    have xvg3 := (Cxv.out.at 3 rfl).1
    go_wp2_with (fail)
    go_at_call 33
    refine (HSD.out O oq _ HOv.out hnil).mono ?_
    rintro e w3 ⟨D, dq, rfl, hd, hb⟩
    have hwz3 := hb.size
    try simp at hwz3
    have HBw3 : Hid (Below w.heap.size w w3) := Lib.hid (below_then' (by repeat (first | with_reducible exact HBv.out | with_reducible refine blw_alloc ?_ _ | with_reducible refine Below.drew ?_ | with_reducible refine blw_step ?_ _ | with_reducible refine Below.setCell (p := ⟨_, _, none⟩) ?_ (by first | exact Nat.le_refl _ | (simp; done) | (simp; omega) | omega) _)) hb)
    have Cow3 : Hid (Cs w3 (w1.heap.size) [.slice O ps.length oq]) := Lib.hid ((show Cs _ (w1.heap.size) [.slice O ps.length oq] from (by (repeat (first | with_reducible exact Cov.out | (with_reducible refine Cs.new ?_; focus (first | rfl | (simp; done) | omega)) | with_reducible refine Cs.alloc ?_ _ | with_reducible refine Cs.drew ?_ | with_reducible refine Cs.drewN ?_ _ | (with_reducible refine Cs.other ?_ ?_ _; focus (first | omega | (simp; done) | (simp; omega))) | with_reducible apply Cs.put)) <;> first | rfl | (simp; done))).after hb)
    have Cmw3 : Hid (Cs w3 (w2.heap.size) [.int .i64 a0, .int .i64 a1, .int .i64 a2, .int .i64 a3, .int .u64 (a4 : Int), .int .i64 a5, .int .i64 a6]) := Lib.hid ((show Cs _ (w2.heap.size) [.int .i64 a0, .int .i64 a1, .int .i64 a2, .int .i64 a3, .int .u64 (a4 : Int), .int .i64 a5, .int .i64 a6] from (by (repeat (first | with_reducible exact Cmv.out | (with_reducible refine Cs.new ?_; focus (first | rfl | (simp; done) | omega)) | with_reducible refine Cs.alloc ?_ _ | with_reducible refine Cs.drew ?_ | with_reducible refine Cs.drewN ?_ _ | (with_reducible refine Cs.other ?_ ?_ _; focus (first | omega | (simp; done) | (simp; omega))) | with_reducible apply Cs.put)) <;> first | rfl | (simp; done))).after hb)
    have hwv3 : Hid (Below v.heap.size v w3) := Lib.hid hb
    have HD := Lib.hid hd.read
    have hdl := (Lib.hid (fun ad (e : D = some ad) => hd.lt ad.block (by rw [e]; rfl)))
    clear hd
    clear ovg0 ovf0 mvg0 mvg1 mvg2 mvg3 mvg4 mvg5 mvg6 xvg0 xvg1 xvg2 xvg3 hb
    have low3 := Cow3.out.1
    have ow3g0 := (Cow3.out.at 0 rfl).1
    have ow3f0 := (Cow3.out.at 0 rfl).2
    have lmw3 := Cmw3.out.1
    have hs3 := HBw3.out.size
    have hsv3 := hwv3.out.size
    go_upto_region 7 with fail
    obtain ⟨u, hu⟩ : ∃ u, u = (w3.setCell ⟨w1.heap.size, 0, none⟩ (.slice D ps2.length dq)).alloc (.cells #[.int .i64 0, .int .i64 uid, .int .i64 uam, .int .i64 utag] 27) := ⟨_, rfl⟩
    have HBu : Hid (Below w.heap.size w u) := Lib.hid (by rw [hu]; exact blw_alloc (HBw3.out.setCell (p := ⟨w1.heap.size, 0, none⟩) (by show w.heap.size ≤ w1.heap.size; omega) _) _)
    have Cou : Hid (Cs u w1.heap.size [.slice D ps2.length dq]) := Lib.hid (by rw [hu]; exact Cs.alloc (put1 Cow3.out) _)
    have Cmu : Hid (Cs u w2.heap.size [.int .i64 a0, .int .i64 a1, .int .i64 a2, .int .i64 a3, .int .u64 (a4 : Int), .int .i64 a5, .int .i64 a6]) := Lib.hid (by rw [hu]; exact Cs.alloc (Cs.other (by show w1.heap.size ≠ w2.heap.size; omega) Cmw3.out _) _)
    have Ctu : Hid (Cs u w3.heap.size [.int .i64 0, .int .i64 uid, .int .i64 uam, .int .i64 utag]) := Lib.hid (by rw [hu]; exact Cs.new (by simp))
    have HCu : Hid (RdE 1 encW u B c) := Lib.hid (by rw [hu]; exact (rdh (HCv.out.below hwv3.out) (fun ad e => heap_setCell_other _ _ _ _ (hbB.out ad e))).below (blw_alloc (Below.refl _ _) _))
    have HDu : Hid (RdE 4 Pr.enc u D ps2) := Lib.hid (by rw [hu]; exact (rdh HD.out (fun ad e => heap_setCell_other _ _ _ _ (by have := (hdl.out ad e).1; show ad.block ≠ w1.heap.size; omega))).below (blw_alloc (Below.refl _ _) _))
    rw [← hu]
    clear hu
    have lou := Cou.out.1
    have lmu := Cmu.out.1
    have ltu := Ctu.out.1
    clear ow3g0 ow3f0 hdl hbB HSZ HD HOv HCv
    have tu0 := (Ctu.out.at 0 rfl).1
    have tu1 := (Ctu.out.at 1 rfl).1
    have tu2 := (Ctu.out.at 2 rfl).1
    have tu3 := (Ctu.out.at 3 rfl).1
    go_wp2_with (fail)
    go_at_call 14
    refine (HF.out _).mono ?_
    rintro e w4 ⟨rfl, hb⟩
    have hwz4 := hb.size
    try simp at hwz4
    have HBw4 : Hid (Below w.heap.size w w4) := Lib.hid (below_then' (by repeat (first | with_reducible exact HBu.out | with_reducible refine blw_alloc ?_ _ | with_reducible refine Below.drew ?_ | with_reducible refine blw_step ?_ _ | with_reducible refine Below.setCell (p := ⟨_, _, none⟩) ?_ (by first | exact Nat.le_refl _ | (simp; done) | (simp; omega) | omega) _)) hb)
    have Cow4 : Hid (Cs w4 (w1.heap.size) [.slice D ps2.length dq]) := Lib.hid ((show Cs _ (w1.heap.size) [.slice D ps2.length dq] from (by (repeat (first | with_reducible exact Cou.out | (with_reducible refine Cs.new ?_; focus (first | rfl | (simp; done) | omega)) | with_reducible refine Cs.alloc ?_ _ | with_reducible refine Cs.drew ?_ | with_reducible refine Cs.drewN ?_ _ | (with_reducible refine Cs.other ?_ ?_ _; focus (first | omega | (simp; done) | (simp; omega))) | with_reducible apply Cs.put)) <;> first | rfl | (simp; done))).after hb)
    have Cmw4 : Hid (Cs w4 (w2.heap.size) [.int .i64 a0, .int .i64 a1, .int .i64 a2, .int .i64 a3, .int .u64 (a4 : Int), .int .i64 a5, .int .i64 a6]) := Lib.hid ((show Cs _ (w2.heap.size) [.int .i64 a0, .int .i64 a1, .int .i64 a2, .int .i64 a3, .int .u64 (a4 : Int), .int .i64 a5, .int .i64 a6] from (by (repeat (first | with_reducible exact Cmu.out | (with_reducible refine Cs.new ?_; focus (first | rfl | (simp; done) | omega)) | with_reducible refine Cs.alloc ?_ _ | with_reducible refine Cs.drew ?_ | with_reducible refine Cs.drewN ?_ _ | (with_reducible refine Cs.other ?_ ?_ _; focus (first | omega | (simp; done) | (simp; omega))) | with_reducible apply Cs.put)) <;> first | rfl | (simp; done))).after hb)
    have Ctw4 : Hid (Cs w4 (w3.heap.size) [.int .i64 0, .int .i64 uid, .int .i64 uam, .int .i64 utag]) := Lib.hid ((show Cs _ (w3.heap.size) [.int .i64 0, .int .i64 uid, .int .i64 uam, .int .i64 utag] from (by (repeat (first | with_reducible exact Ctu.out | (with_reducible refine Cs.new ?_; focus (first | rfl | (simp; done) | omega)) | with_reducible refine Cs.alloc ?_ _ | with_reducible refine Cs.drew ?_ | with_reducible refine Cs.drewN ?_ _ | (with_reducible refine Cs.other ?_ ?_ _; focus (first | omega | (simp; done) | (simp; omega))) | with_reducible apply Cs.put)) <;> first | rfl | (simp; done))).after hb)
    have hwu4 : Hid (Below u.heap.size u w4) := Lib.hid (below_then' (by repeat (first | with_reducible exact Below.refl _ _ | with_reducible refine blw_alloc ?_ _ | with_reducible refine Below.drew ?_ | with_reducible refine blw_step ?_ _ | with_reducible refine Below.setCell (p := ⟨_, _, none⟩) ?_ (by first | exact Nat.le_refl _ | (simp; done) | (simp; omega) | omega) _)) hb)
    clear tu0 tu1 tu2 tu3 hb
    have low4 := Cow4.out.1
    have lmw4 := Cmw4.out.1
    have ltw4 := Ctw4.out.1
    have HC4 := Lib.hid (HCu.out.below hwu4.out)
    have HD4 := Lib.hid (HDu.out.below hwu4.out)
    clear HCu HDu
    go_wp2_with fail
    go_loopg [9, 17] cuts.length (fun mm b i wr => TRel ⟨a0, a1, a2, a3, a4, a5, a6⟩ cuts w w1.heap.size w2.heap.size w3.heap.size [.slice D ps2.length dq] [.int .i64 a0, .int .i64 a1, .int .i64 a2, .int .i64 a3, .int .u64 (a4 : Int), .int .i64 a5, .int .i64 a6] [.int .i64 0, .int .i64 uid, .int .i64 uam, .int .i64 utag] D ps2 mm b i wr)
    case atStart => exact ⟨0, c, B, p, by omega, by omega, by omega, rfl, rfl, hcap, HPc.out, HC4.out, Cow4.out, Cmw4.out, Ctw4.out, HD4.out, HBw4.out⟩
    case round =>
      clear HC4 HD4 Cow4 Cmw4 Ctw4 hcap HPc HB2
      obtain ⟨k, c, B, p, hmm, hk8, hkl, rfl, rfl, hcap, hpk, hw, hco, hcm, hct, hd4, hbl⟩ := hrel
      have HBk := Lib.hid hbl
      have HW := Lib.hid hw
      have HPc := Lib.hid hpk
      have Cok := Lib.hid hco
      have Cmk := Lib.hid hcm
      have Ctk := Lib.hid hct
      have HDk := Lib.hid hd4
      have HCAP := Lib.hid hcap
      clear hbl hw hpk hco hcm hct hd4 hcap
      have ok0 := (Cok.out.at 0 rfl).1
      have lok := Cok.out.1
      have lmk := Cmk.out.1
      have ltk := Ctk.out.1
      by_cases hlt : k < cuts.length ∧ k < 8
      · obtain ⟨hk1, hk2⟩ := hlt
        have hki : (k : Int) < (cuts.length : Int) := by omega
        have hk0 : (0 : Int) ≤ (k : Int) := by omega
        have hk3 : (k : Int) < 8 := by omega
        go_wp2_with (fail)
        go_at_call 24
        refine (HKB.out c B p D dq _ HW.out HPc.out HCAP.out HDk.out).mono ?_
        rintro e v1 ⟨G, g, rfl, hb⟩
        have hvz1 := hb.size
        try simp at hvz1
        have HBv1 : Hid (Below w.heap.size w v1) := Lib.hid (below_then' (by repeat (first | with_reducible exact HBk.out | with_reducible refine blw_alloc ?_ _ | with_reducible refine Below.drew ?_ | with_reducible refine blw_step ?_ _ | with_reducible refine Below.setCell (p := ⟨_, _, none⟩) ?_ (by first | exact Nat.le_refl _ | (simp; done) | (simp; omega) | omega) _)) hb)
        clear ok0 hb
        go_wp2_with fail
        go_ret
        exact ⟨rfl, HBv1.out⟩
      · by_cases hk1 : k < cuts.length
        · have hki : (k : Int) < (cuts.length : Int) := by omega
          obtain rfl : k = 8 := by omega
          clear hlt hk1
          go_wp2_with (fail)
          go_at_call 24
          refine (HKB.out c B p D dq _ HW.out HPc.out HCAP.out HDk.out).mono ?_
          rintro e v1 ⟨G, g, rfl, hb⟩
          have hvz1 := hb.size
          try simp at hvz1
          have HBv1 : Hid (Below w.heap.size w v1) := Lib.hid (below_then' (by repeat (first | with_reducible exact HBk.out | with_reducible refine blw_alloc ?_ _ | with_reducible refine Below.drew ?_ | with_reducible refine blw_step ?_ _ | with_reducible refine Below.setCell (p := ⟨_, _, none⟩) ?_ (by first | exact Nat.le_refl _ | (simp; done) | (simp; omega) | omega) _)) hb)
          clear ok0 hb
          go_wp2_with fail
          go_ret
          exact ⟨rfl, HBv1.out⟩
        · have hki : ¬ (k : Int) < (cuts.length : Int) := by omega
          clear hlt hk1
          go_wp2_with (fail)
          go_at_call 24
          refine (HKB.out c B p D dq _ HW.out HPc.out HCAP.out HDk.out).mono ?_
          rintro e v1 ⟨G, g, rfl, hb⟩
          have hvz1 := hb.size
          try simp at hvz1
          have HBv1 : Hid (Below w.heap.size w v1) := Lib.hid (below_then' (by repeat (first | with_reducible exact HBk.out | with_reducible refine blw_alloc ?_ _ | with_reducible refine Below.drew ?_ | with_reducible refine blw_step ?_ _ | with_reducible refine Below.setCell (p := ⟨_, _, none⟩) ?_ (by first | exact Nat.le_refl _ | (simp; done) | (simp; omega) | omega) _)) hb)
          clear ok0 hb
          go_wp2_with fail
          go_ret
          exact ⟨rfl, HBv1.out⟩
  · generalize hK : keyR m ps2 ⟨0, uid, uam, utag⟩ = K at *
    obtain ⟨K1, ad, co⟩ := K
    simp only at o1 o2 o3 o4 kk1 kk2
    subst o1
    obtain rfl : uam = ad := o2.symm
    have hne : m ≠ K1 := fun h => by
      have h2 := congrArg Mt.cr h
      omega
    have HKG : Hid (∀ (s : Nat) (c : List UInt32) (B : Option Addr) (p : Nat) (D : Option Addr) (dq : Nat) (W : World), RdE 1 encW W B c → Pk c m → c.length ≤ p → RdE 4 Pr.enc W D ps2 → newerN (markN c 5 0) (markN c 5 1) = some s → Calls Tryd.prog 24 #[.slice B c.length p, .agg #[.slice D ps2.length dq], .string S] W fun e w' => ∃ G g, e = .returned (.tuple #[.slice G (movedW c s m K1).length g, .int .i64 uam, .int .i64 0]) ∧ OwWr W.heap.size w' G g (movedW c s m K1) ∧ Below W.heap.size W w') := Lib.hid (by
      intro s c B p D dq W hc hk hq hr hs
      have h := HKD.out m c s B p D dq W hc hk hs hq hr
      rw [hK] at h
      exact h)
    have HKN : Hid (∀ (c : List UInt32) (B : Option Addr) (p : Nat) (D : Option Addr) (dq : Nat) (W : World), RdE 1 encW W B c → Pk c K1 → c.length ≤ p → RdE 4 Pr.enc W D ps2 → Calls Tryd.prog 24 #[.slice B c.length p, .agg #[.slice D ps2.length dq], .string S] W fun e w' => ∃ G g, e = .returned (.tuple #[.slice G 0 g, .int .i64 0, .int .i64 14]) ∧ Below W.heap.size W w') := Lib.hid (by
      intro c B p D dq W hc hk hq hr
      obtain ⟨s, hs⟩ := hk.newer
      have h := HKD.out K1 c s B p D dq W hc hk hs hq hr
      rw [o4, moved_self] at h
      exact h.mono fun e w' ⟨G, g, h1, _, h2⟩ => ⟨G, g, h1, h2⟩)
    have HBK := Lib.hid (fun c A q W hc hk hq => HBT.out c K1 A q W hc hk hq)
    have HMV := Lib.hid (fun (c : List UInt32) (s : Nat) (hk : Pk c m) (hs : newerN (markN c 5 0) (markN c 5 1) = some s) => (⟨moved_full (c := c) (s := s) hne, moved_pk hk hs kk1 kk2, fun k hl => cut_pk (k := k) (next := K1) hk hs hl, moved_in (old := m) (next := K1) hk.len (newer_lt hs), hk.len⟩ : (movedW c s m K1).length = 7 ∧ Pk (applyL c (movedW c s m K1)) K1 ∧ (∀ k, k < (movedW c s m K1).length → Pk (applyL c ((movedW c s m K1).take k)) m) ∧ (∀ x ∈ movedW c s m K1, x.at_ < c.length) ∧ c.length = 12))
    have HO3 := Lib.hid o3
    clear o3 o4 hK HKD kk1 kk2 hne
    go_enter Tryd.func12, Tryd.ntmps12
    go_wp2_with fail
    go_at_call 17
    refine (HPM.out _).mono ?_
    rintro e w' ⟨rfl, rfl⟩
    go_wp2_with (fail)
    go_at_call 32
    refine (HAT.out _ (HL.out.below (blw_alloc (Below.refl _ _) _))).mono ?_
    rintro e w1 ⟨c, B, p, O, oq, rfl, hpk, ho, hop, hb⟩
    have hwz1 := hb.size
    try simp at hwz1
    have HBw1 : Hid (Below w.heap.size w w1) := Lib.hid (below_then' (by repeat (first | with_reducible exact Below.refl _ _ | with_reducible refine blw_alloc ?_ _ | with_reducible refine Below.drew ?_ | with_reducible refine blw_step ?_ _ | with_reducible refine Below.setCell (p := ⟨_, _, none⟩) ?_ (by first | exact Nat.le_refl _ | (simp; done) | (simp; omega) | omega) _)) hb)
    have Cxw1 : Hid (Cs w1 (w.heap.size) [.int .i64 xcl, .int .i64 xid, .int .i64 xam, .int .i64 xtag]) := Lib.hid ((show Cs _ (w.heap.size) [.int .i64 xcl, .int .i64 xid, .int .i64 xam, .int .i64 xtag] from (by (repeat (first | (with_reducible refine Cs.new ?_; focus (first | rfl | (simp; done) | omega)) | with_reducible refine Cs.alloc ?_ _ | with_reducible refine Cs.drew ?_ | with_reducible refine Cs.drewN ?_ _ | (with_reducible refine Cs.other ?_ ?_ _; focus (first | omega | (simp; done) | (simp; omega))) | with_reducible apply Cs.put)) <;> first | rfl | (simp; done))).after hb)
    have HWB := Lib.hid (fun (W : World) (h : Below w1.heap.size w1 W) => ho.read.below h)
    have HOB := Lib.hid (fun (W : World) (h : Below w1.heap.size w1 W) => hop.read.below h)
    have hbo := Lib.hid (fun ad (e : B = some ad) => ho.lt ad.block (by rw [e]; rfl))
    have hbp := Lib.hid (fun ad (e : O = some ad) => hop.lt ad.block (by rw [e]; rfl))
    have hcap := own_cap ho
    have hnil := hop.nil_of
    have HPc := Lib.hid hpk
    clear ho hop hpk
    clear hb
    have lxw1 := Cxw1.out.1
    have hs1 := HBw1.out.size
    have HB2 := Lib.hid (fun W hc => HBT.out c m B p W hc HPc.out hcap)
    obtain ⟨a0, a1, a2, a3, a4, a5, a6⟩ := m
    simp only at hcr0
    unfold Mt.vals at HB2 HSD
    simp only at HB2 HSD
    go_wp2_with (fail)
    go_at_call 26
    refine (HB2.out _ (HWB.out _ (by repeat (first | with_reducible exact Below.refl _ _ | with_reducible refine blw_alloc ?_ _ | with_reducible refine Below.drew ?_ | with_reducible refine blw_step ?_ _ | with_reducible refine Below.setCell (p := ⟨_, _, none⟩) ?_ (by first | exact Nat.le_refl _ | (simp; done) | (simp; omega) | omega) _)))).mono ?_
    rintro e w2 ⟨rfl, hb⟩
    have hwz2 := hb.size
    try simp at hwz2
    have HBw2 : Hid (Below w.heap.size w w2) := Lib.hid (below_then' (by repeat (first | with_reducible exact HBw1.out | with_reducible refine blw_alloc ?_ _ | with_reducible refine Below.drew ?_ | with_reducible refine blw_step ?_ _ | with_reducible refine Below.setCell (p := ⟨_, _, none⟩) ?_ (by first | exact Nat.le_refl _ | (simp; done) | (simp; omega) | omega) _)) hb)
    have Cxw2 : Hid (Cs w2 (w.heap.size) [.int .i64 xcl, .int .i64 xid, .int .i64 xam, .int .i64 xtag]) := Lib.hid ((show Cs _ (w.heap.size) [.int .i64 xcl, .int .i64 xid, .int .i64 xam, .int .i64 xtag] from (by (repeat (first | with_reducible exact Cxw1.out | (with_reducible refine Cs.new ?_; focus (first | rfl | (simp; done) | omega)) | with_reducible refine Cs.alloc ?_ _ | with_reducible refine Cs.drew ?_ | with_reducible refine Cs.drewN ?_ _ | (with_reducible refine Cs.other ?_ ?_ _; focus (first | omega | (simp; done) | (simp; omega))) | with_reducible apply Cs.put)) <;> first | rfl | (simp; done))).after hb)
    have Cow2 : Hid (Cs w2 (w1.heap.size) [.slice O ps.length oq]) := Lib.hid ((show Cs _ (w1.heap.size) [.slice O ps.length oq] from (by (repeat (first | (with_reducible refine Cs.new ?_; focus (first | rfl | (simp; done) | omega)) | with_reducible refine Cs.alloc ?_ _ | with_reducible refine Cs.drew ?_ | with_reducible refine Cs.drewN ?_ _ | (with_reducible refine Cs.other ?_ ?_ _; focus (first | omega | (simp; done) | (simp; omega))) | with_reducible apply Cs.put)) <;> first | rfl | (simp; done))).after hb)
    have hw12 : Hid (Below w1.heap.size w1 w2) := Lib.hid (below_then' (by repeat (first | with_reducible exact Below.refl _ _ | with_reducible refine blw_alloc ?_ _ | with_reducible refine Below.drew ?_ | with_reducible refine blw_step ?_ _ | with_reducible refine Below.setCell (p := ⟨_, _, none⟩) ?_ (by first | exact Nat.le_refl _ | (simp; done) | (simp; omega) | omega) _)) hb)
    clear hb
    have lxw2 := Cxw2.out.1
    have xw2g0 := (Cxw2.out.at 0 rfl).1
    have xw2f0 := (Cxw2.out.at 0 rfl).2
    have xw2g1 := (Cxw2.out.at 1 rfl).1
    have xw2f1 := (Cxw2.out.at 1 rfl).2
    have xw2g2 := (Cxw2.out.at 2 rfl).1
    have xw2f2 := (Cxw2.out.at 2 rfl).2
    have xw2g3 := (Cxw2.out.at 3 rfl).1
    have xw2f3 := (Cxw2.out.at 3 rfl).2
    have low2 := Cow2.out.1
    have hs2 := HBw2.out.size
    have hs12 := hw12.out.size
    go_upto_region 6 with fail
    obtain ⟨v, hv⟩ : ∃ v, v = (w2.setCell ⟨w.heap.size, 0, none⟩ (.int .i64 0)).alloc (.cells #[.int .i64 a0, .int .i64 a1, .int .i64 a2, .int .i64 a3, .int .u64 (a4 : Int), .int .i64 a5, .int .i64 a6] 40) := ⟨_, rfl⟩
    rw [← hv]
    have HBv : Hid (Below w.heap.size w v) := Lib.hid (by rw [hv]; exact blw_alloc (HBw2.out.setCell (p := ⟨w.heap.size, 0, none⟩) (by exact Nat.le_refl _) _) _)
    have Cov : Hid (Cs v w1.heap.size [.slice O ps.length oq]) := Lib.hid (by rw [hv]; exact Cs.alloc (Cs.other (by show w.heap.size ≠ w1.heap.size; omega) Cow2.out _) _)
    have Cmv : Hid (Cs v w2.heap.size [.int .i64 a0, .int .i64 a1, .int .i64 a2, .int .i64 a3, .int .u64 (a4 : Int), .int .i64 a5, .int .i64 a6]) := Lib.hid (by rw [hv]; exact Cs.new (by simp))
    have Cxv : Hid (Cs v w.heap.size [.int .i64 0, .int .i64 xid, .int .i64 xam, .int .i64 xtag]) := Lib.hid (by rw [hv]; exact Cs.alloc (Cs.put (vs := [.int .i64 xcl, .int .i64 xid, .int .i64 xam, .int .i64 xtag]) Cxw2.out (by simp) rfl) _)
    have HCv : Hid (RdE 1 encW v B c) := Lib.hid (by rw [hv]; exact (rdh (HWB.out w2 hw12.out) (fun ad e => heap_setCell_other _ _ _ _ (by have := (hbo.out ad e).1; simp at this; show ad.block ≠ w.heap.size; omega))).below (blw_alloc (Below.refl _ _) _))
    have HOv : Hid (RdE 4 Pr.enc v O ps) := Lib.hid (by rw [hv]; exact (rdh (HOB.out w2 hw12.out) (fun ad e => heap_setCell_other _ _ _ _ (by have := (hbp.out ad e).1; simp at this; show ad.block ≠ w.heap.size; omega))).below (blw_alloc (Below.refl _ _) _))
    have hbB := Lib.hid (fun ad (e : B = some ad) => (show ad.block ≠ w1.heap.size by have := (hbo.out ad e).2; omega))
    have hszv : v.heap.size = w2.heap.size + 1 := by rw [hv]; simp
    clear hv
    have HSZ := Lib.hid hszv
    clear hszv
    clear xw2g0 xw2f0 xw2g1 xw2f1 xw2g2 xw2f2 xw2g3 xw2f3 hbo hbp HWB HOB
    have lov := Cov.out.1
    have lmv := Cmv.out.1
    have lxv := Cxv.out.1
    have ovg0 := (Cov.out.at 0 rfl).1
    have ovf0 := (Cov.out.at 0 rfl).2
    have mvg0 := (Cmv.out.at 0 rfl).1
    have mvg1 := (Cmv.out.at 1 rfl).1
    have mvg2 := (Cmv.out.at 2 rfl).1
    have mvg3 := (Cmv.out.at 3 rfl).1
    have mvg4 := (Cmv.out.at 4 rfl).1
    have mvg5 := (Cmv.out.at 5 rfl).1
    have mvg6 := (Cmv.out.at 6 rfl).1
    have xvg0 := (Cxv.out.at 0 rfl).1
    have xvg1 := (Cxv.out.at 1 rfl).1
    have xvg2 := (Cxv.out.at 2 rfl).1
    have xvg3 := (Cxv.out.at 3 rfl).1
    go_wp2_with (fail)
    go_at_call 33
    refine (HSD.out O oq _ HOv.out hnil).mono ?_
    rintro e w3 ⟨D, dq, rfl, hd, hb⟩
    have hwz3 := hb.size
    try simp at hwz3
    have HBw3 : Hid (Below w.heap.size w w3) := Lib.hid (below_then' (by repeat (first | with_reducible exact HBv.out | with_reducible refine blw_alloc ?_ _ | with_reducible refine Below.drew ?_ | with_reducible refine blw_step ?_ _ | with_reducible refine Below.setCell (p := ⟨_, _, none⟩) ?_ (by first | exact Nat.le_refl _ | (simp; done) | (simp; omega) | omega) _)) hb)
    have Cow3 : Hid (Cs w3 (w1.heap.size) [.slice O ps.length oq]) := Lib.hid ((show Cs _ (w1.heap.size) [.slice O ps.length oq] from (by (repeat (first | with_reducible exact Cov.out | (with_reducible refine Cs.new ?_; focus (first | rfl | (simp; done) | omega)) | with_reducible refine Cs.alloc ?_ _ | with_reducible refine Cs.drew ?_ | with_reducible refine Cs.drewN ?_ _ | (with_reducible refine Cs.other ?_ ?_ _; focus (first | omega | (simp; done) | (simp; omega))) | with_reducible apply Cs.put)) <;> first | rfl | (simp; done))).after hb)
    have Cmw3 : Hid (Cs w3 (w2.heap.size) [.int .i64 a0, .int .i64 a1, .int .i64 a2, .int .i64 a3, .int .u64 (a4 : Int), .int .i64 a5, .int .i64 a6]) := Lib.hid ((show Cs _ (w2.heap.size) [.int .i64 a0, .int .i64 a1, .int .i64 a2, .int .i64 a3, .int .u64 (a4 : Int), .int .i64 a5, .int .i64 a6] from (by (repeat (first | with_reducible exact Cmv.out | (with_reducible refine Cs.new ?_; focus (first | rfl | (simp; done) | omega)) | with_reducible refine Cs.alloc ?_ _ | with_reducible refine Cs.drew ?_ | with_reducible refine Cs.drewN ?_ _ | (with_reducible refine Cs.other ?_ ?_ _; focus (first | omega | (simp; done) | (simp; omega))) | with_reducible apply Cs.put)) <;> first | rfl | (simp; done))).after hb)
    have hwv3 : Hid (Below v.heap.size v w3) := Lib.hid hb
    have HD := Lib.hid hd.read
    have hdl := (Lib.hid (fun ad (e : D = some ad) => hd.lt ad.block (by rw [e]; rfl)))
    clear hd
    clear ovg0 ovf0 mvg0 mvg1 mvg2 mvg3 mvg4 mvg5 mvg6 xvg0 xvg1 xvg2 xvg3 hb
    have low3 := Cow3.out.1
    have ow3g0 := (Cow3.out.at 0 rfl).1
    have ow3f0 := (Cow3.out.at 0 rfl).2
    have lmw3 := Cmw3.out.1
    have hs3 := HBw3.out.size
    have hsv3 := hwv3.out.size
    go_upto_region 7 with fail
    obtain ⟨u, hu⟩ : ∃ u, u = (w3.setCell ⟨w1.heap.size, 0, none⟩ (.slice D ps2.length dq)).alloc (.cells #[.int .i64 0, .int .i64 uid, .int .i64 uam, .int .i64 utag] 27) := ⟨_, rfl⟩
    have HBu : Hid (Below w.heap.size w u) := Lib.hid (by rw [hu]; exact blw_alloc (HBw3.out.setCell (p := ⟨w1.heap.size, 0, none⟩) (by show w.heap.size ≤ w1.heap.size; omega) _) _)
    have Cou : Hid (Cs u w1.heap.size [.slice D ps2.length dq]) := Lib.hid (by rw [hu]; exact Cs.alloc (put1 Cow3.out) _)
    have Cmu : Hid (Cs u w2.heap.size [.int .i64 a0, .int .i64 a1, .int .i64 a2, .int .i64 a3, .int .u64 (a4 : Int), .int .i64 a5, .int .i64 a6]) := Lib.hid (by rw [hu]; exact Cs.alloc (Cs.other (by show w1.heap.size ≠ w2.heap.size; omega) Cmw3.out _) _)
    have Ctu : Hid (Cs u w3.heap.size [.int .i64 0, .int .i64 uid, .int .i64 uam, .int .i64 utag]) := Lib.hid (by rw [hu]; exact Cs.new (by simp))
    have HCu : Hid (RdE 1 encW u B c) := Lib.hid (by rw [hu]; exact (rdh (HCv.out.below hwv3.out) (fun ad e => heap_setCell_other _ _ _ _ (hbB.out ad e))).below (blw_alloc (Below.refl _ _) _))
    have HDu : Hid (RdE 4 Pr.enc u D ps2) := Lib.hid (by rw [hu]; exact (rdh HD.out (fun ad e => heap_setCell_other _ _ _ _ (by have := (hdl.out ad e).1; show ad.block ≠ w1.heap.size; omega))).below (blw_alloc (Below.refl _ _) _))
    rw [← hu]
    clear hu
    have lou := Cou.out.1
    have lmu := Cmu.out.1
    have ltu := Ctu.out.1
    clear ow3g0 ow3f0 hdl hbB HSZ HD HOv HCv
    have tu0 := (Ctu.out.at 0 rfl).1
    have tu1 := (Ctu.out.at 1 rfl).1
    have tu2 := (Ctu.out.at 2 rfl).1
    have tu3 := (Ctu.out.at 3 rfl).1
    go_wp2_with (fail)
    go_at_call 14
    refine (HF.out _).mono ?_
    rintro e w4 ⟨rfl, hb⟩
    have hwz4 := hb.size
    try simp at hwz4
    have HBw4 : Hid (Below w.heap.size w w4) := Lib.hid (below_then' (by repeat (first | with_reducible exact HBu.out | with_reducible refine blw_alloc ?_ _ | with_reducible refine Below.drew ?_ | with_reducible refine blw_step ?_ _ | with_reducible refine Below.setCell (p := ⟨_, _, none⟩) ?_ (by first | exact Nat.le_refl _ | (simp; done) | (simp; omega) | omega) _)) hb)
    have Cow4 : Hid (Cs w4 (w1.heap.size) [.slice D ps2.length dq]) := Lib.hid ((show Cs _ (w1.heap.size) [.slice D ps2.length dq] from (by (repeat (first | with_reducible exact Cou.out | (with_reducible refine Cs.new ?_; focus (first | rfl | (simp; done) | omega)) | with_reducible refine Cs.alloc ?_ _ | with_reducible refine Cs.drew ?_ | with_reducible refine Cs.drewN ?_ _ | (with_reducible refine Cs.other ?_ ?_ _; focus (first | omega | (simp; done) | (simp; omega))) | with_reducible apply Cs.put)) <;> first | rfl | (simp; done))).after hb)
    have Cmw4 : Hid (Cs w4 (w2.heap.size) [.int .i64 a0, .int .i64 a1, .int .i64 a2, .int .i64 a3, .int .u64 (a4 : Int), .int .i64 a5, .int .i64 a6]) := Lib.hid ((show Cs _ (w2.heap.size) [.int .i64 a0, .int .i64 a1, .int .i64 a2, .int .i64 a3, .int .u64 (a4 : Int), .int .i64 a5, .int .i64 a6] from (by (repeat (first | with_reducible exact Cmu.out | (with_reducible refine Cs.new ?_; focus (first | rfl | (simp; done) | omega)) | with_reducible refine Cs.alloc ?_ _ | with_reducible refine Cs.drew ?_ | with_reducible refine Cs.drewN ?_ _ | (with_reducible refine Cs.other ?_ ?_ _; focus (first | omega | (simp; done) | (simp; omega))) | with_reducible apply Cs.put)) <;> first | rfl | (simp; done))).after hb)
    have Ctw4 : Hid (Cs w4 (w3.heap.size) [.int .i64 0, .int .i64 uid, .int .i64 uam, .int .i64 utag]) := Lib.hid ((show Cs _ (w3.heap.size) [.int .i64 0, .int .i64 uid, .int .i64 uam, .int .i64 utag] from (by (repeat (first | with_reducible exact Ctu.out | (with_reducible refine Cs.new ?_; focus (first | rfl | (simp; done) | omega)) | with_reducible refine Cs.alloc ?_ _ | with_reducible refine Cs.drew ?_ | with_reducible refine Cs.drewN ?_ _ | (with_reducible refine Cs.other ?_ ?_ _; focus (first | omega | (simp; done) | (simp; omega))) | with_reducible apply Cs.put)) <;> first | rfl | (simp; done))).after hb)
    have hwu4 : Hid (Below u.heap.size u w4) := Lib.hid (below_then' (by repeat (first | with_reducible exact Below.refl _ _ | with_reducible refine blw_alloc ?_ _ | with_reducible refine Below.drew ?_ | with_reducible refine blw_step ?_ _ | with_reducible refine Below.setCell (p := ⟨_, _, none⟩) ?_ (by first | exact Nat.le_refl _ | (simp; done) | (simp; omega) | omega) _)) hb)
    clear tu0 tu1 tu2 tu3 hb
    have low4 := Cow4.out.1
    have lmw4 := Cmw4.out.1
    have ltw4 := Ctw4.out.1
    have HC4 := Lib.hid (HCu.out.below hwu4.out)
    have HD4 := Lib.hid (HDu.out.below hwu4.out)
    clear HCu HDu
    have ho3 := HO3.out
    obtain ⟨b0, b1, b2, b3, b4, b5, b6⟩ := K1
    simp only at ho3
    unfold Mt.vals at HBK
    simp only at HBK
    subst ho3
    clear HO3
    go_wp2_with fail
    go_loopg [9, 17] cuts.length (fun mm b i wr => TRel ⟨a0, a1, a2, a3, a4, a5, a6⟩ cuts w w1.heap.size w2.heap.size w3.heap.size [.slice D ps2.length dq] [.int .i64 a0, .int .i64 a1, .int .i64 a2, .int .i64 a3, .int .u64 (a4 : Int), .int .i64 a5, .int .i64 a6] [.int .i64 0, .int .i64 uid, .int .i64 uam, .int .i64 utag] D ps2 mm b i wr)
    case atStart => exact ⟨0, c, B, p, by omega, by omega, by omega, rfl, rfl, hcap, HPc.out, HC4.out, Cow4.out, Cmw4.out, Ctw4.out, HD4.out, HBw4.out⟩
    case round =>
      clear HC4 HD4 Cow4 Cmw4 Ctw4 hcap HPc HB2
      obtain ⟨k, c, B, p, hmm, hk8, hkl, rfl, rfl, hcap, hpk, hw, hco, hcm, hct, hd4, hbl⟩ := hrel
      have HBk := Lib.hid hbl
      have HW := Lib.hid hw
      have HPc := Lib.hid hpk
      have Cok := Lib.hid hco
      have Cmk := Lib.hid hcm
      have Ctk := Lib.hid hct
      have HDk := Lib.hid hd4
      have HCAP := Lib.hid hcap
      clear hbl hw hpk hco hcm hct hd4 hcap
      have ok0 := (Cok.out.at 0 rfl).1
      have lok := Cok.out.1
      have lmk := Cmk.out.1
      have ltk := Ctk.out.1
      obtain ⟨s, hs⟩ := HPc.out.newer
      obtain ⟨h7, hall, hcutf, hin2, hcl⟩ := HMV.out c s HPc.out hs
      have HK1 := Lib.hid (fun W hc hr => HKG.out s c B p D dq W hc HPc.out HCAP.out hr hs)
      by_cases hlt : k < cuts.length ∧ k < 8
      · obtain ⟨hk1, hk2⟩ := hlt
        have hki : (k : Int) < (cuts.length : Int) := by omega
        have hk0 : (0 : Int) ≤ (k : Int) := by omega
        have hk3 : (k : Int) < 8 := by omega
        obtain ⟨ad, hU, hcell⟩ := RU.out.at1 k hk1 _ rfl
        subst hU
        have hadb := World.block_lt_of_cell? _ _ hcell
        obtain ⟨x0, x1⟩ := HQ.out _ (List.getElem_mem hk1)
        have HCL := Lib.hid (fun (W : World) (h : Below w.heap.size w W) => (h.cell hadb).trans hcell)
        clear hcell
        generalize cuts[k] = cx at *
        obtain ⟨j0, j1⟩ := pk_bound cx 7 (by decide)
        have HPX := Lib.hid (fun W => picked_any cx 7 W x0 x1 (by omega))
        obtain ⟨j, hj⟩ := Int.eq_ofNat_of_zero_le j0
        rw [hj] at HPX j1
        have HAP := Lib.hid (fun G g W hc hw hg => apply_any c _ j (j : Int) B G p g W hc hw (by omega) (by omega) (by omega) hg hin2 rfl (by omega))
        have hcj := Lib.hid (hcutf j (by omega))
        have H7 := Lib.hid h7
        clear h7 hall hcutf hin2 hcl hs
        generalize movedW c s ⟨a0, a1, a2, a3, a4, a5, a6⟩ ⟨b0, b1, a2 + uam, b3, b4, b5, b6⟩ = MW at *
        have hz1 : ((MW.length : Int) == 0) = false := beq_eq_false_iff_ne.mpr (by have := H7.out; omega)
        have hz2 : (MW.length == 0) = false := beq_eq_false_iff_ne.mpr (by have := H7.out; omega)
        go_wp2_with (fail)
        go_at_call 24
        refine (HK1.out _ HW.out HDk.out).mono ?_
        rintro e v1 ⟨G, g, rfl, ho, hb⟩
        have hvz1 := hb.size
        try simp at hvz1
        have HBv1 : Hid (Below w.heap.size w v1) := Lib.hid (below_then' (by repeat (first | with_reducible exact HBk.out | with_reducible refine blw_alloc ?_ _ | with_reducible refine Below.drew ?_ | with_reducible refine blw_step ?_ _ | with_reducible refine Below.setCell (p := ⟨_, _, none⟩) ?_ (by first | exact Nat.le_refl _ | (simp; done) | (simp; omega) | omega) _)) hb)
        have Cov1 : Hid (Cs v1 (w1.heap.size) [.slice D ps2.length dq]) := Lib.hid ((show Cs _ (w1.heap.size) [.slice D ps2.length dq] from (by (repeat (first | with_reducible exact Cok.out | (with_reducible refine Cs.new ?_; focus (first | rfl | (simp; done) | omega)) | with_reducible refine Cs.alloc ?_ _ | with_reducible refine Cs.drew ?_ | with_reducible refine Cs.drewN ?_ _ | (with_reducible refine Cs.other ?_ ?_ _; focus (first | omega | (simp; done) | (simp; omega))) | with_reducible apply Cs.put)) <;> first | rfl | (simp; done))).after hb)
        have Cmv1 : Hid (Cs v1 (w2.heap.size) [.int .i64 a0, .int .i64 a1, .int .i64 a2, .int .i64 a3, .int .u64 (a4 : Int), .int .i64 a5, .int .i64 a6]) := Lib.hid ((show Cs _ (w2.heap.size) [.int .i64 a0, .int .i64 a1, .int .i64 a2, .int .i64 a3, .int .u64 (a4 : Int), .int .i64 a5, .int .i64 a6] from (by (repeat (first | with_reducible exact Cmk.out | (with_reducible refine Cs.new ?_; focus (first | rfl | (simp; done) | omega)) | with_reducible refine Cs.alloc ?_ _ | with_reducible refine Cs.drew ?_ | with_reducible refine Cs.drewN ?_ _ | (with_reducible refine Cs.other ?_ ?_ _; focus (first | omega | (simp; done) | (simp; omega))) | with_reducible apply Cs.put)) <;> first | rfl | (simp; done))).after hb)
        have Ctv1 : Hid (Cs v1 (w3.heap.size) [.int .i64 0, .int .i64 uid, .int .i64 uam, .int .i64 utag]) := Lib.hid ((show Cs _ (w3.heap.size) [.int .i64 0, .int .i64 uid, .int .i64 uam, .int .i64 utag] from (by (repeat (first | with_reducible exact Ctk.out | (with_reducible refine Cs.new ?_; focus (first | rfl | (simp; done) | omega)) | with_reducible refine Cs.alloc ?_ _ | with_reducible refine Cs.drew ?_ | with_reducible refine Cs.drewN ?_ _ | (with_reducible refine Cs.other ?_ ?_ _; focus (first | omega | (simp; done) | (simp; omega))) | with_reducible apply Cs.put)) <;> first | rfl | (simp; done))).after hb)
        have HG := Lib.hid ho.read
        have hgc := own_cap ho
        have HW1 := Lib.hid (HW.out.below hb)
        have HD1 := Lib.hid (HDk.out.below hb)
        clear ho
        clear ok0 hb
        have lov1 := Cov1.out.1
        have lmv1 := Cmv1.out.1
        have ltv1 := Ctv1.out.1
        have hcell := HCL.out _ HBv1.out
        have hl7 : (MW.length : Int) = 7 := by have := H7.out; omega
        go_wp2_with fail
        go_at_call 17
        refine (HPX.out _).mono ?_
        rintro e w' ⟨rfl, rfl⟩
        have HL7 := Lib.hid hl7
        clear hl7
        go_wp2_with (fail)
        go_at_call 25
        refine (HAP.out G g _ HW1.out HG.out hgc).mono ?_
        rintro e v2 ⟨E, eq, rfl, ho, hb⟩
        have hvz2 := hb.size
        try simp at hvz2
        have HBv2 : Hid (Below w.heap.size w v2) := Lib.hid (below_then' (by repeat (first | with_reducible exact HBv1.out | with_reducible refine blw_alloc ?_ _ | with_reducible refine Below.drew ?_ | with_reducible refine blw_step ?_ _ | with_reducible refine Below.setCell (p := ⟨_, _, none⟩) ?_ (by first | exact Nat.le_refl _ | (simp; done) | (simp; omega) | omega) _)) hb)
        have Cov2 : Hid (Cs v2 (w1.heap.size) [.slice D ps2.length dq]) := Lib.hid ((show Cs _ (w1.heap.size) [.slice D ps2.length dq] from (by (repeat (first | with_reducible exact Cov1.out | (with_reducible refine Cs.new ?_; focus (first | rfl | (simp; done) | omega)) | with_reducible refine Cs.alloc ?_ _ | with_reducible refine Cs.drew ?_ | with_reducible refine Cs.drewN ?_ _ | (with_reducible refine Cs.other ?_ ?_ _; focus (first | omega | (simp; done) | (simp; omega))) | with_reducible apply Cs.put)) <;> first | rfl | (simp; done))).after hb)
        have Cmv2 : Hid (Cs v2 (w2.heap.size) [.int .i64 a0, .int .i64 a1, .int .i64 a2, .int .i64 a3, .int .u64 (a4 : Int), .int .i64 a5, .int .i64 a6]) := Lib.hid ((show Cs _ (w2.heap.size) [.int .i64 a0, .int .i64 a1, .int .i64 a2, .int .i64 a3, .int .u64 (a4 : Int), .int .i64 a5, .int .i64 a6] from (by (repeat (first | with_reducible exact Cmv1.out | (with_reducible refine Cs.new ?_; focus (first | rfl | (simp; done) | omega)) | with_reducible refine Cs.alloc ?_ _ | with_reducible refine Cs.drew ?_ | with_reducible refine Cs.drewN ?_ _ | (with_reducible refine Cs.other ?_ ?_ _; focus (first | omega | (simp; done) | (simp; omega))) | with_reducible apply Cs.put)) <;> first | rfl | (simp; done))).after hb)
        have Ctv2 : Hid (Cs v2 (w3.heap.size) [.int .i64 0, .int .i64 uid, .int .i64 uam, .int .i64 utag]) := Lib.hid ((show Cs _ (w3.heap.size) [.int .i64 0, .int .i64 uid, .int .i64 uam, .int .i64 utag] from (by (repeat (first | with_reducible exact Ctv1.out | (with_reducible refine Cs.new ?_; focus (first | rfl | (simp; done) | omega)) | with_reducible refine Cs.alloc ?_ _ | with_reducible refine Cs.drew ?_ | with_reducible refine Cs.drewN ?_ _ | (with_reducible refine Cs.other ?_ ?_ _; focus (first | omega | (simp; done) | (simp; omega))) | with_reducible apply Cs.put)) <;> first | rfl | (simp; done))).after hb)
        have HE := Lib.hid ho.read
        have hec := own_cap ho
        have HD2 := Lib.hid (HD1.out.below hb)
        clear ho
        clear hcell hb
        have lov2 := Cov2.out.1
        have lmv2 := Cmv2.out.1
        have ltv2 := Ctv2.out.1
        go_wp2_with fail
        go_roundg (cuts.length - (k + 1))
        case measure => omega
        case rel => exact ⟨k + 1, _, E, eq, by omega, by omega, by omega, by go_num, rfl, hec, hcj.out, HE.out, Cov2.out, Cmv2.out, Ctv2.out, HD2.out, HBv2.out⟩
      · have HAP := Lib.hid (fun G g W hc hw hg => apply_all c _ B G p g W hc hw (by omega) (by omega) (by omega) hg hin2)
        have HP2 := Lib.hid hall
        have H7 := Lib.hid h7
        clear h7 hall hcutf hin2 hcl hs
        generalize movedW c s ⟨a0, a1, a2, a3, a4, a5, a6⟩ ⟨b0, b1, a2 + uam, b3, b4, b5, b6⟩ = MW at *
        have HB5 := Lib.hid (fun E eq W hc hq => HBK.out (applyL c MW) E eq W hc HP2.out hq)
        have HN5 := Lib.hid (fun E eq W hc hq hr => HKN.out (applyL c MW) E eq D dq W hc HP2.out hq hr)
        generalize applyL c MW = c2 at *
        have hz1 : ((MW.length : Int) == 0) = false := beq_eq_false_iff_ne.mpr (by have := H7.out; omega)
        have hz2 : (MW.length == 0) = false := beq_eq_false_iff_ne.mpr (by have := H7.out; omega)
        by_cases hk1 : k < cuts.length
        · have hki : (k : Int) < (cuts.length : Int) := by omega
          obtain rfl : k = 8 := by omega
          clear hlt hk1
          go_wp2_with (fail)
          go_at_call 24
          refine (HK1.out _ HW.out HDk.out).mono ?_
          rintro e v1 ⟨G, g, rfl, ho, hb⟩
          have hvz1 := hb.size
          try simp at hvz1
          have HBv1 : Hid (Below w.heap.size w v1) := Lib.hid (below_then' (by repeat (first | with_reducible exact HBk.out | with_reducible refine blw_alloc ?_ _ | with_reducible refine Below.drew ?_ | with_reducible refine blw_step ?_ _ | with_reducible refine Below.setCell (p := ⟨_, _, none⟩) ?_ (by first | exact Nat.le_refl _ | (simp; done) | (simp; omega) | omega) _)) hb)
          have Cov1 : Hid (Cs v1 (w1.heap.size) [.slice D ps2.length dq]) := Lib.hid ((show Cs _ (w1.heap.size) [.slice D ps2.length dq] from (by (repeat (first | with_reducible exact Cok.out | (with_reducible refine Cs.new ?_; focus (first | rfl | (simp; done) | omega)) | with_reducible refine Cs.alloc ?_ _ | with_reducible refine Cs.drew ?_ | with_reducible refine Cs.drewN ?_ _ | (with_reducible refine Cs.other ?_ ?_ _; focus (first | omega | (simp; done) | (simp; omega))) | with_reducible apply Cs.put)) <;> first | rfl | (simp; done))).after hb)
          have Cmv1 : Hid (Cs v1 (w2.heap.size) [.int .i64 a0, .int .i64 a1, .int .i64 a2, .int .i64 a3, .int .u64 (a4 : Int), .int .i64 a5, .int .i64 a6]) := Lib.hid ((show Cs _ (w2.heap.size) [.int .i64 a0, .int .i64 a1, .int .i64 a2, .int .i64 a3, .int .u64 (a4 : Int), .int .i64 a5, .int .i64 a6] from (by (repeat (first | with_reducible exact Cmk.out | (with_reducible refine Cs.new ?_; focus (first | rfl | (simp; done) | omega)) | with_reducible refine Cs.alloc ?_ _ | with_reducible refine Cs.drew ?_ | with_reducible refine Cs.drewN ?_ _ | (with_reducible refine Cs.other ?_ ?_ _; focus (first | omega | (simp; done) | (simp; omega))) | with_reducible apply Cs.put)) <;> first | rfl | (simp; done))).after hb)
          have Ctv1 : Hid (Cs v1 (w3.heap.size) [.int .i64 0, .int .i64 uid, .int .i64 uam, .int .i64 utag]) := Lib.hid ((show Cs _ (w3.heap.size) [.int .i64 0, .int .i64 uid, .int .i64 uam, .int .i64 utag] from (by (repeat (first | with_reducible exact Ctk.out | (with_reducible refine Cs.new ?_; focus (first | rfl | (simp; done) | omega)) | with_reducible refine Cs.alloc ?_ _ | with_reducible refine Cs.drew ?_ | with_reducible refine Cs.drewN ?_ _ | (with_reducible refine Cs.other ?_ ?_ _; focus (first | omega | (simp; done) | (simp; omega))) | with_reducible apply Cs.put)) <;> first | rfl | (simp; done))).after hb)
          have HG := Lib.hid ho.read
          have hgc := own_cap ho
          have HW1 := Lib.hid (HW.out.below hb)
          have HD1 := Lib.hid (HDk.out.below hb)
          clear ho
          clear ok0 hb
          have lov1 := Cov1.out.1
          have lmv1 := Cmv1.out.1
          have ltv1 := Ctv1.out.1
          go_wp2_with (fail)
          go_at_call 25
          refine (HAP.out G g _ HW1.out HG.out hgc).mono ?_
          rintro e v2 ⟨E, eq, rfl, ho, hb⟩
          have hvz2 := hb.size
          try simp at hvz2
          have HBv2 : Hid (Below w.heap.size w v2) := Lib.hid (below_then' (by repeat (first | with_reducible exact HBv1.out | with_reducible refine blw_alloc ?_ _ | with_reducible refine Below.drew ?_ | with_reducible refine blw_step ?_ _ | with_reducible refine Below.setCell (p := ⟨_, _, none⟩) ?_ (by first | exact Nat.le_refl _ | (simp; done) | (simp; omega) | omega) _)) hb)
          have Cov2 : Hid (Cs v2 (w1.heap.size) [.slice D ps2.length dq]) := Lib.hid ((show Cs _ (w1.heap.size) [.slice D ps2.length dq] from (by (repeat (first | with_reducible exact Cov1.out | (with_reducible refine Cs.new ?_; focus (first | rfl | (simp; done) | omega)) | with_reducible refine Cs.alloc ?_ _ | with_reducible refine Cs.drew ?_ | with_reducible refine Cs.drewN ?_ _ | (with_reducible refine Cs.other ?_ ?_ _; focus (first | omega | (simp; done) | (simp; omega))) | with_reducible apply Cs.put)) <;> first | rfl | (simp; done))).after hb)
          have Cmv2 : Hid (Cs v2 (w2.heap.size) [.int .i64 a0, .int .i64 a1, .int .i64 a2, .int .i64 a3, .int .u64 (a4 : Int), .int .i64 a5, .int .i64 a6]) := Lib.hid ((show Cs _ (w2.heap.size) [.int .i64 a0, .int .i64 a1, .int .i64 a2, .int .i64 a3, .int .u64 (a4 : Int), .int .i64 a5, .int .i64 a6] from (by (repeat (first | with_reducible exact Cmv1.out | (with_reducible refine Cs.new ?_; focus (first | rfl | (simp; done) | omega)) | with_reducible refine Cs.alloc ?_ _ | with_reducible refine Cs.drew ?_ | with_reducible refine Cs.drewN ?_ _ | (with_reducible refine Cs.other ?_ ?_ _; focus (first | omega | (simp; done) | (simp; omega))) | with_reducible apply Cs.put)) <;> first | rfl | (simp; done))).after hb)
          have Ctv2 : Hid (Cs v2 (w3.heap.size) [.int .i64 0, .int .i64 uid, .int .i64 uam, .int .i64 utag]) := Lib.hid ((show Cs _ (w3.heap.size) [.int .i64 0, .int .i64 uid, .int .i64 uam, .int .i64 utag] from (by (repeat (first | with_reducible exact Ctv1.out | (with_reducible refine Cs.new ?_; focus (first | rfl | (simp; done) | omega)) | with_reducible refine Cs.alloc ?_ _ | with_reducible refine Cs.drew ?_ | with_reducible refine Cs.drewN ?_ _ | (with_reducible refine Cs.other ?_ ?_ _; focus (first | omega | (simp; done) | (simp; omega))) | with_reducible apply Cs.put)) <;> first | rfl | (simp; done))).after hb)
          have HE := Lib.hid ho.read
          have hec := own_cap ho
          have HD2 := Lib.hid (HD1.out.below hb)
          clear ho
          clear hb
          have lov2 := Cov2.out.1
          have lmv2 := Cmv2.out.1
          have ltv2 := Ctv2.out.1
          go_wp2_with (fail)
          go_at_call 26
          refine (HB5.out E eq _ HE.out hec).mono ?_
          rintro e v3 ⟨rfl, hb⟩
          have hvz3 := hb.size
          try simp at hvz3
          have HBv3 : Hid (Below w.heap.size w v3) := Lib.hid (below_then' (by repeat (first | with_reducible exact HBv2.out | with_reducible refine blw_alloc ?_ _ | with_reducible refine Below.drew ?_ | with_reducible refine blw_step ?_ _ | with_reducible refine Below.setCell (p := ⟨_, _, none⟩) ?_ (by first | exact Nat.le_refl _ | (simp; done) | (simp; omega) | omega) _)) hb)
          have Cov3 : Hid (Cs v3 (w1.heap.size) [.slice D ps2.length dq]) := Lib.hid ((show Cs _ (w1.heap.size) [.slice D ps2.length dq] from (by (repeat (first | with_reducible exact Cov2.out | (with_reducible refine Cs.new ?_; focus (first | rfl | (simp; done) | omega)) | with_reducible refine Cs.alloc ?_ _ | with_reducible refine Cs.drew ?_ | with_reducible refine Cs.drewN ?_ _ | (with_reducible refine Cs.other ?_ ?_ _; focus (first | omega | (simp; done) | (simp; omega))) | with_reducible apply Cs.put)) <;> first | rfl | (simp; done))).after hb)
          have Cmv3 : Hid (Cs v3 (w2.heap.size) [.int .i64 a0, .int .i64 a1, .int .i64 a2, .int .i64 a3, .int .u64 (a4 : Int), .int .i64 a5, .int .i64 a6]) := Lib.hid ((show Cs _ (w2.heap.size) [.int .i64 a0, .int .i64 a1, .int .i64 a2, .int .i64 a3, .int .u64 (a4 : Int), .int .i64 a5, .int .i64 a6] from (by (repeat (first | with_reducible exact Cmv2.out | (with_reducible refine Cs.new ?_; focus (first | rfl | (simp; done) | omega)) | with_reducible refine Cs.alloc ?_ _ | with_reducible refine Cs.drew ?_ | with_reducible refine Cs.drewN ?_ _ | (with_reducible refine Cs.other ?_ ?_ _; focus (first | omega | (simp; done) | (simp; omega))) | with_reducible apply Cs.put)) <;> first | rfl | (simp; done))).after hb)
          have Ctv3 : Hid (Cs v3 (w3.heap.size) [.int .i64 0, .int .i64 uid, .int .i64 uam, .int .i64 utag]) := Lib.hid ((show Cs _ (w3.heap.size) [.int .i64 0, .int .i64 uid, .int .i64 uam, .int .i64 utag] from (by (repeat (first | with_reducible exact Ctv2.out | (with_reducible refine Cs.new ?_; focus (first | rfl | (simp; done) | omega)) | with_reducible refine Cs.alloc ?_ _ | with_reducible refine Cs.drew ?_ | with_reducible refine Cs.drewN ?_ _ | (with_reducible refine Cs.other ?_ ?_ _; focus (first | omega | (simp; done) | (simp; omega))) | with_reducible apply Cs.put)) <;> first | rfl | (simp; done))).after hb)
          have HE3 := Lib.hid (HE.out.below hb)
          have HD3 := Lib.hid (HD2.out.below hb)
          clear hb
          have lov3 := Cov3.out.1
          have ov3g0 := (Cov3.out.at 0 rfl).1
          have lmv3 := Cmv3.out.1
          have ltv3 := Ctv3.out.1
          have hsz3 := HBv3.out.size
          go_wp2_with (fail)
          go_at_call 24
          refine (HN5.out E eq _ (HE3.out.below (by repeat (first | with_reducible exact Below.refl _ _ | with_reducible refine blw_alloc ?_ _ | with_reducible refine Below.drew ?_ | with_reducible refine blw_step ?_ _ | with_reducible refine Below.setCell (p := ⟨_, _, none⟩) ?_ (by first | exact Nat.le_refl _ | (simp; done) | (simp; omega) | omega) _))) hec (HD3.out.below (by repeat (first | with_reducible exact Below.refl _ _ | with_reducible refine blw_alloc ?_ _ | with_reducible refine Below.drew ?_ | with_reducible refine blw_step ?_ _ | with_reducible refine Below.setCell (p := ⟨_, _, none⟩) ?_ (by first | exact Nat.le_refl _ | (simp; done) | (simp; omega) | omega) _)))).mono ?_
          rintro e v4 ⟨G2, g2, rfl, hb⟩
          have hvz4 := hb.size
          try simp at hvz4
          have HBv4 : Hid (Below w.heap.size w v4) := Lib.hid (below_then' (by repeat (first | with_reducible exact HBv3.out | with_reducible refine blw_alloc ?_ _ | with_reducible refine Below.drew ?_ | with_reducible refine blw_step ?_ _ | with_reducible refine Below.setCell (p := ⟨_, _, none⟩) ?_ (by first | exact Nat.le_refl _ | (simp; done) | (simp; omega) | omega) _)) hb)
          have Cmv4 : Hid (Cs v4 (w2.heap.size) [.int .i64 a0, .int .i64 a1, .int .i64 a2, .int .i64 a3, .int .u64 (a4 : Int), .int .i64 a5, .int .i64 a6]) := Lib.hid ((show Cs _ (w2.heap.size) [.int .i64 a0, .int .i64 a1, .int .i64 a2, .int .i64 a3, .int .u64 (a4 : Int), .int .i64 a5, .int .i64 a6] from (by (repeat (first | with_reducible exact Cmv3.out | (with_reducible refine Cs.new ?_; focus (first | rfl | (simp; done) | omega)) | with_reducible refine Cs.alloc ?_ _ | with_reducible refine Cs.drew ?_ | with_reducible refine Cs.drewN ?_ _ | (with_reducible refine Cs.other ?_ ?_ _; focus (first | omega | (simp; done) | (simp; omega))) | with_reducible apply Cs.put)) <;> first | rfl | (simp; done))).after hb)
          have Ctv4 : Hid (Cs v4 (w3.heap.size) [.int .i64 0, .int .i64 uid, .int .i64 uam, .int .i64 utag]) := Lib.hid ((show Cs _ (w3.heap.size) [.int .i64 0, .int .i64 uid, .int .i64 uam, .int .i64 utag] from (by (repeat (first | with_reducible exact Ctv3.out | (with_reducible refine Cs.new ?_; focus (first | rfl | (simp; done) | omega)) | with_reducible refine Cs.alloc ?_ _ | with_reducible refine Cs.drew ?_ | with_reducible refine Cs.drewN ?_ _ | (with_reducible refine Cs.other ?_ ?_ _; focus (first | omega | (simp; done) | (simp; omega))) | with_reducible apply Cs.put)) <;> first | rfl | (simp; done))).after hb)
          have Cnv4 : Hid (Cs v4 (v3.heap.size) [.int .i64 b0, .int .i64 b1, .int .i64 (a2 + uam), .int .i64 b3, .int .u64 (b4 : Int), .int .i64 b5, .int .i64 b6]) := Lib.hid ((show Cs _ (v3.heap.size) [.int .i64 b0, .int .i64 b1, .int .i64 (a2 + uam), .int .i64 b3, .int .u64 (b4 : Int), .int .i64 b5, .int .i64 b6] from (by (repeat (first | (with_reducible refine Cs.new ?_; focus (first | rfl | (simp; done) | omega)) | with_reducible refine Cs.alloc ?_ _ | with_reducible refine Cs.drew ?_ | with_reducible refine Cs.drewN ?_ _ | (with_reducible refine Cs.other ?_ ?_ _; focus (first | omega | (simp; done) | (simp; omega))) | with_reducible apply Cs.put)) <;> first | rfl | (simp; done))).after hb)
          clear ov3g0 hb
          have lmv4 := Cmv4.out.1
          have mv4g0 := (Cmv4.out.at 0 rfl).1
          have mv4g1 := (Cmv4.out.at 1 rfl).1
          have mv4g2 := (Cmv4.out.at 2 rfl).1
          have mv4g3 := (Cmv4.out.at 3 rfl).1
          have mv4g4 := (Cmv4.out.at 4 rfl).1
          have mv4g5 := (Cmv4.out.at 5 rfl).1
          have mv4g6 := (Cmv4.out.at 6 rfl).1
          have ltv4 := Ctv4.out.1
          have tv4g0 := (Ctv4.out.at 0 rfl).1
          have tv4g1 := (Ctv4.out.at 1 rfl).1
          have tv4g2 := (Ctv4.out.at 2 rfl).1
          have tv4g3 := (Ctv4.out.at 3 rfl).1
          have lnv4 := Cnv4.out.1
          have nv4g0 := (Cnv4.out.at 0 rfl).1
          have nv4g1 := (Cnv4.out.at 1 rfl).1
          have nv4g2 := (Cnv4.out.at 2 rfl).1
          have nv4g3 := (Cnv4.out.at 3 rfl).1
          have nv4g4 := (Cnv4.out.at 4 rfl).1
          have nv4g5 := (Cnv4.out.at 5 rfl).1
          have nv4g6 := (Cnv4.out.at 6 rfl).1
          go_wp2_with fail
          go_ret
          exact ⟨rfl, HBv4.out⟩
        · have hki : ¬ (k : Int) < (cuts.length : Int) := by omega
          clear hlt hk1
          go_wp2_with (fail)
          go_at_call 24
          refine (HK1.out _ HW.out HDk.out).mono ?_
          rintro e v1 ⟨G, g, rfl, ho, hb⟩
          have hvz1 := hb.size
          try simp at hvz1
          have HBv1 : Hid (Below w.heap.size w v1) := Lib.hid (below_then' (by repeat (first | with_reducible exact HBk.out | with_reducible refine blw_alloc ?_ _ | with_reducible refine Below.drew ?_ | with_reducible refine blw_step ?_ _ | with_reducible refine Below.setCell (p := ⟨_, _, none⟩) ?_ (by first | exact Nat.le_refl _ | (simp; done) | (simp; omega) | omega) _)) hb)
          have Cov1 : Hid (Cs v1 (w1.heap.size) [.slice D ps2.length dq]) := Lib.hid ((show Cs _ (w1.heap.size) [.slice D ps2.length dq] from (by (repeat (first | with_reducible exact Cok.out | (with_reducible refine Cs.new ?_; focus (first | rfl | (simp; done) | omega)) | with_reducible refine Cs.alloc ?_ _ | with_reducible refine Cs.drew ?_ | with_reducible refine Cs.drewN ?_ _ | (with_reducible refine Cs.other ?_ ?_ _; focus (first | omega | (simp; done) | (simp; omega))) | with_reducible apply Cs.put)) <;> first | rfl | (simp; done))).after hb)
          have Cmv1 : Hid (Cs v1 (w2.heap.size) [.int .i64 a0, .int .i64 a1, .int .i64 a2, .int .i64 a3, .int .u64 (a4 : Int), .int .i64 a5, .int .i64 a6]) := Lib.hid ((show Cs _ (w2.heap.size) [.int .i64 a0, .int .i64 a1, .int .i64 a2, .int .i64 a3, .int .u64 (a4 : Int), .int .i64 a5, .int .i64 a6] from (by (repeat (first | with_reducible exact Cmk.out | (with_reducible refine Cs.new ?_; focus (first | rfl | (simp; done) | omega)) | with_reducible refine Cs.alloc ?_ _ | with_reducible refine Cs.drew ?_ | with_reducible refine Cs.drewN ?_ _ | (with_reducible refine Cs.other ?_ ?_ _; focus (first | omega | (simp; done) | (simp; omega))) | with_reducible apply Cs.put)) <;> first | rfl | (simp; done))).after hb)
          have Ctv1 : Hid (Cs v1 (w3.heap.size) [.int .i64 0, .int .i64 uid, .int .i64 uam, .int .i64 utag]) := Lib.hid ((show Cs _ (w3.heap.size) [.int .i64 0, .int .i64 uid, .int .i64 uam, .int .i64 utag] from (by (repeat (first | with_reducible exact Ctk.out | (with_reducible refine Cs.new ?_; focus (first | rfl | (simp; done) | omega)) | with_reducible refine Cs.alloc ?_ _ | with_reducible refine Cs.drew ?_ | with_reducible refine Cs.drewN ?_ _ | (with_reducible refine Cs.other ?_ ?_ _; focus (first | omega | (simp; done) | (simp; omega))) | with_reducible apply Cs.put)) <;> first | rfl | (simp; done))).after hb)
          have HG := Lib.hid ho.read
          have hgc := own_cap ho
          have HW1 := Lib.hid (HW.out.below hb)
          have HD1 := Lib.hid (HDk.out.below hb)
          clear ho
          clear ok0 hb
          have lov1 := Cov1.out.1
          have lmv1 := Cmv1.out.1
          have ltv1 := Ctv1.out.1
          go_wp2_with (fail)
          go_at_call 25
          refine (HAP.out G g _ HW1.out HG.out hgc).mono ?_
          rintro e v2 ⟨E, eq, rfl, ho, hb⟩
          have hvz2 := hb.size
          try simp at hvz2
          have HBv2 : Hid (Below w.heap.size w v2) := Lib.hid (below_then' (by repeat (first | with_reducible exact HBv1.out | with_reducible refine blw_alloc ?_ _ | with_reducible refine Below.drew ?_ | with_reducible refine blw_step ?_ _ | with_reducible refine Below.setCell (p := ⟨_, _, none⟩) ?_ (by first | exact Nat.le_refl _ | (simp; done) | (simp; omega) | omega) _)) hb)
          have Cov2 : Hid (Cs v2 (w1.heap.size) [.slice D ps2.length dq]) := Lib.hid ((show Cs _ (w1.heap.size) [.slice D ps2.length dq] from (by (repeat (first | with_reducible exact Cov1.out | (with_reducible refine Cs.new ?_; focus (first | rfl | (simp; done) | omega)) | with_reducible refine Cs.alloc ?_ _ | with_reducible refine Cs.drew ?_ | with_reducible refine Cs.drewN ?_ _ | (with_reducible refine Cs.other ?_ ?_ _; focus (first | omega | (simp; done) | (simp; omega))) | with_reducible apply Cs.put)) <;> first | rfl | (simp; done))).after hb)
          have Cmv2 : Hid (Cs v2 (w2.heap.size) [.int .i64 a0, .int .i64 a1, .int .i64 a2, .int .i64 a3, .int .u64 (a4 : Int), .int .i64 a5, .int .i64 a6]) := Lib.hid ((show Cs _ (w2.heap.size) [.int .i64 a0, .int .i64 a1, .int .i64 a2, .int .i64 a3, .int .u64 (a4 : Int), .int .i64 a5, .int .i64 a6] from (by (repeat (first | with_reducible exact Cmv1.out | (with_reducible refine Cs.new ?_; focus (first | rfl | (simp; done) | omega)) | with_reducible refine Cs.alloc ?_ _ | with_reducible refine Cs.drew ?_ | with_reducible refine Cs.drewN ?_ _ | (with_reducible refine Cs.other ?_ ?_ _; focus (first | omega | (simp; done) | (simp; omega))) | with_reducible apply Cs.put)) <;> first | rfl | (simp; done))).after hb)
          have Ctv2 : Hid (Cs v2 (w3.heap.size) [.int .i64 0, .int .i64 uid, .int .i64 uam, .int .i64 utag]) := Lib.hid ((show Cs _ (w3.heap.size) [.int .i64 0, .int .i64 uid, .int .i64 uam, .int .i64 utag] from (by (repeat (first | with_reducible exact Ctv1.out | (with_reducible refine Cs.new ?_; focus (first | rfl | (simp; done) | omega)) | with_reducible refine Cs.alloc ?_ _ | with_reducible refine Cs.drew ?_ | with_reducible refine Cs.drewN ?_ _ | (with_reducible refine Cs.other ?_ ?_ _; focus (first | omega | (simp; done) | (simp; omega))) | with_reducible apply Cs.put)) <;> first | rfl | (simp; done))).after hb)
          have HE := Lib.hid ho.read
          have hec := own_cap ho
          have HD2 := Lib.hid (HD1.out.below hb)
          clear ho
          clear hb
          have lov2 := Cov2.out.1
          have lmv2 := Cmv2.out.1
          have ltv2 := Ctv2.out.1
          go_wp2_with (fail)
          go_at_call 26
          refine (HB5.out E eq _ HE.out hec).mono ?_
          rintro e v3 ⟨rfl, hb⟩
          have hvz3 := hb.size
          try simp at hvz3
          have HBv3 : Hid (Below w.heap.size w v3) := Lib.hid (below_then' (by repeat (first | with_reducible exact HBv2.out | with_reducible refine blw_alloc ?_ _ | with_reducible refine Below.drew ?_ | with_reducible refine blw_step ?_ _ | with_reducible refine Below.setCell (p := ⟨_, _, none⟩) ?_ (by first | exact Nat.le_refl _ | (simp; done) | (simp; omega) | omega) _)) hb)
          have Cov3 : Hid (Cs v3 (w1.heap.size) [.slice D ps2.length dq]) := Lib.hid ((show Cs _ (w1.heap.size) [.slice D ps2.length dq] from (by (repeat (first | with_reducible exact Cov2.out | (with_reducible refine Cs.new ?_; focus (first | rfl | (simp; done) | omega)) | with_reducible refine Cs.alloc ?_ _ | with_reducible refine Cs.drew ?_ | with_reducible refine Cs.drewN ?_ _ | (with_reducible refine Cs.other ?_ ?_ _; focus (first | omega | (simp; done) | (simp; omega))) | with_reducible apply Cs.put)) <;> first | rfl | (simp; done))).after hb)
          have Cmv3 : Hid (Cs v3 (w2.heap.size) [.int .i64 a0, .int .i64 a1, .int .i64 a2, .int .i64 a3, .int .u64 (a4 : Int), .int .i64 a5, .int .i64 a6]) := Lib.hid ((show Cs _ (w2.heap.size) [.int .i64 a0, .int .i64 a1, .int .i64 a2, .int .i64 a3, .int .u64 (a4 : Int), .int .i64 a5, .int .i64 a6] from (by (repeat (first | with_reducible exact Cmv2.out | (with_reducible refine Cs.new ?_; focus (first | rfl | (simp; done) | omega)) | with_reducible refine Cs.alloc ?_ _ | with_reducible refine Cs.drew ?_ | with_reducible refine Cs.drewN ?_ _ | (with_reducible refine Cs.other ?_ ?_ _; focus (first | omega | (simp; done) | (simp; omega))) | with_reducible apply Cs.put)) <;> first | rfl | (simp; done))).after hb)
          have Ctv3 : Hid (Cs v3 (w3.heap.size) [.int .i64 0, .int .i64 uid, .int .i64 uam, .int .i64 utag]) := Lib.hid ((show Cs _ (w3.heap.size) [.int .i64 0, .int .i64 uid, .int .i64 uam, .int .i64 utag] from (by (repeat (first | with_reducible exact Ctv2.out | (with_reducible refine Cs.new ?_; focus (first | rfl | (simp; done) | omega)) | with_reducible refine Cs.alloc ?_ _ | with_reducible refine Cs.drew ?_ | with_reducible refine Cs.drewN ?_ _ | (with_reducible refine Cs.other ?_ ?_ _; focus (first | omega | (simp; done) | (simp; omega))) | with_reducible apply Cs.put)) <;> first | rfl | (simp; done))).after hb)
          have HE3 := Lib.hid (HE.out.below hb)
          have HD3 := Lib.hid (HD2.out.below hb)
          clear hb
          have lov3 := Cov3.out.1
          have ov3g0 := (Cov3.out.at 0 rfl).1
          have lmv3 := Cmv3.out.1
          have ltv3 := Ctv3.out.1
          have hsz3 := HBv3.out.size
          go_wp2_with (fail)
          go_at_call 24
          refine (HN5.out E eq _ (HE3.out.below (by repeat (first | with_reducible exact Below.refl _ _ | with_reducible refine blw_alloc ?_ _ | with_reducible refine Below.drew ?_ | with_reducible refine blw_step ?_ _ | with_reducible refine Below.setCell (p := ⟨_, _, none⟩) ?_ (by first | exact Nat.le_refl _ | (simp; done) | (simp; omega) | omega) _))) hec (HD3.out.below (by repeat (first | with_reducible exact Below.refl _ _ | with_reducible refine blw_alloc ?_ _ | with_reducible refine Below.drew ?_ | with_reducible refine blw_step ?_ _ | with_reducible refine Below.setCell (p := ⟨_, _, none⟩) ?_ (by first | exact Nat.le_refl _ | (simp; done) | (simp; omega) | omega) _)))).mono ?_
          rintro e v4 ⟨G2, g2, rfl, hb⟩
          have hvz4 := hb.size
          try simp at hvz4
          have HBv4 : Hid (Below w.heap.size w v4) := Lib.hid (below_then' (by repeat (first | with_reducible exact HBv3.out | with_reducible refine blw_alloc ?_ _ | with_reducible refine Below.drew ?_ | with_reducible refine blw_step ?_ _ | with_reducible refine Below.setCell (p := ⟨_, _, none⟩) ?_ (by first | exact Nat.le_refl _ | (simp; done) | (simp; omega) | omega) _)) hb)
          have Cmv4 : Hid (Cs v4 (w2.heap.size) [.int .i64 a0, .int .i64 a1, .int .i64 a2, .int .i64 a3, .int .u64 (a4 : Int), .int .i64 a5, .int .i64 a6]) := Lib.hid ((show Cs _ (w2.heap.size) [.int .i64 a0, .int .i64 a1, .int .i64 a2, .int .i64 a3, .int .u64 (a4 : Int), .int .i64 a5, .int .i64 a6] from (by (repeat (first | with_reducible exact Cmv3.out | (with_reducible refine Cs.new ?_; focus (first | rfl | (simp; done) | omega)) | with_reducible refine Cs.alloc ?_ _ | with_reducible refine Cs.drew ?_ | with_reducible refine Cs.drewN ?_ _ | (with_reducible refine Cs.other ?_ ?_ _; focus (first | omega | (simp; done) | (simp; omega))) | with_reducible apply Cs.put)) <;> first | rfl | (simp; done))).after hb)
          have Ctv4 : Hid (Cs v4 (w3.heap.size) [.int .i64 0, .int .i64 uid, .int .i64 uam, .int .i64 utag]) := Lib.hid ((show Cs _ (w3.heap.size) [.int .i64 0, .int .i64 uid, .int .i64 uam, .int .i64 utag] from (by (repeat (first | with_reducible exact Ctv3.out | (with_reducible refine Cs.new ?_; focus (first | rfl | (simp; done) | omega)) | with_reducible refine Cs.alloc ?_ _ | with_reducible refine Cs.drew ?_ | with_reducible refine Cs.drewN ?_ _ | (with_reducible refine Cs.other ?_ ?_ _; focus (first | omega | (simp; done) | (simp; omega))) | with_reducible apply Cs.put)) <;> first | rfl | (simp; done))).after hb)
          have Cnv4 : Hid (Cs v4 (v3.heap.size) [.int .i64 b0, .int .i64 b1, .int .i64 (a2 + uam), .int .i64 b3, .int .u64 (b4 : Int), .int .i64 b5, .int .i64 b6]) := Lib.hid ((show Cs _ (v3.heap.size) [.int .i64 b0, .int .i64 b1, .int .i64 (a2 + uam), .int .i64 b3, .int .u64 (b4 : Int), .int .i64 b5, .int .i64 b6] from (by (repeat (first | (with_reducible refine Cs.new ?_; focus (first | rfl | (simp; done) | omega)) | with_reducible refine Cs.alloc ?_ _ | with_reducible refine Cs.drew ?_ | with_reducible refine Cs.drewN ?_ _ | (with_reducible refine Cs.other ?_ ?_ _; focus (first | omega | (simp; done) | (simp; omega))) | with_reducible apply Cs.put)) <;> first | rfl | (simp; done))).after hb)
          clear ov3g0 hb
          have lmv4 := Cmv4.out.1
          have mv4g0 := (Cmv4.out.at 0 rfl).1
          have mv4g1 := (Cmv4.out.at 1 rfl).1
          have mv4g2 := (Cmv4.out.at 2 rfl).1
          have mv4g3 := (Cmv4.out.at 3 rfl).1
          have mv4g4 := (Cmv4.out.at 4 rfl).1
          have mv4g5 := (Cmv4.out.at 5 rfl).1
          have mv4g6 := (Cmv4.out.at 6 rfl).1
          have ltv4 := Ctv4.out.1
          have tv4g0 := (Ctv4.out.at 0 rfl).1
          have tv4g1 := (Ctv4.out.at 1 rfl).1
          have tv4g2 := (Ctv4.out.at 2 rfl).1
          have tv4g3 := (Ctv4.out.at 3 rfl).1
          have lnv4 := Cnv4.out.1
          have nv4g0 := (Cnv4.out.at 0 rfl).1
          have nv4g1 := (Cnv4.out.at 1 rfl).1
          have nv4g2 := (Cnv4.out.at 2 rfl).1
          have nv4g3 := (Cnv4.out.at 3 rfl).1
          have nv4g4 := (Cnv4.out.at 4 rfl).1
          have nv4g5 := (Cnv4.out.at 5 rfl).1
          have nv4g6 := (Cnv4.out.at 6 rfl).1
          go_wp2_with fail
          go_ret
          exact ⟨rfl, HBv4.out⟩
end Go.Proofs.YtccjcdecpgigpaaDoor.PocketRetry
