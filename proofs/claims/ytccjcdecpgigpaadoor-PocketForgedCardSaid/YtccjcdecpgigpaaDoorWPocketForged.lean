/- The walk of PocketForged. -/
import Derived.Test.YtccjcdecpgigpaaDoorPock6
import Derived.Test.YtccjcdecpgigpaaDoorOpen
namespace Go.Proofs.YtccjcdecpgigpaaDoor.PocketForged
open Go Go.RowKit Go.Proofs.YtccjcdecpgigpaaDoor.Base Go.Proofs.YtccjcdecpgigpaaDoor.Met Go.Proofs.YtccjcdecpgigpaaDoor.Win Go.Proofs.YtccjcdecpgigpaaDoor.Cell Go.Proofs.YtccjcdecpgigpaaDoor.Orc Go.Proofs.YtccjcdecpgigpaaDoor.Tok Go.Proofs.YtccjcdecpgigpaaDoor.Pock
set_option linter.unusedVariables false
set_option linter.unusedSimpArgs false
set_option maxRecDepth 20000
theorem opens_text {H : Type} {enc : TypeId × Value → H} {W : World} : Open.Opens enc Tryd.prog W 9 (fun (s : ByteArray) cs => cs = [.string s] ∧ s.size ≤ maxLen) := Open.opens_str Tryd.underlying9
theorem ver_nil (me r b tag : Int) : verB [] me r b tag = false := rfl
/-- Where nothing was sold: nothing is added; what is written is a bad try. -/
theorem forged (m : Mt) (text : List UInt8) : (keyedR m [] text).2.1 = 0 ∧ ((keyedR m [] text).1 = m ∨ (keyedR m [] text).2.2 = 12) ∧ (keyedR m [] text).1.cr = m.cr ∧ (keyedR m [] text).1.me = m.me ∧ (keyedR m [] text).1.wh = m.wh ∧ (keyedR m [] text).1.wb = m.wb := by
  unfold keyedR
  by_cases hp : parseE text = 0
  · rw [if_pos hp]
    generalize parseT text = t
    have hs : soldI m [] (bodyI t) t.tag = 12 := by
      unfold soldI
      rw [seek_none _ _ _ _ (fun r => ver_nil _ _ _ _), if_pos (by omega)]
    unfold keyR
    by_cases h1 : faultI t ≠ 0
    · rw [if_pos h1]; exact ⟨rfl, .inl rfl, rfl, rfl, rfl, rfl⟩
    rw [if_neg h1]
    by_cases h2 : 0 < m.lock
    · rw [if_pos h2]; exact ⟨rfl, .inl rfl, rfl, rfl, rfl, rfl⟩
    rw [if_neg h2]
    by_cases h3 : t.cl = 3
    · rw [if_pos h3]; exact ⟨rfl, .inl rfl, rfl, rfl, rfl, rfl⟩
    rw [if_neg h3, hs, if_pos (by decide)]
    have hb : soldM m 12 = badM m := rfl
    rw [hb]
    unfold badM
    split <;> exact ⟨rfl, .inr rfl, rfl, rfl, rfl, rfl⟩
  · rw [if_neg hp]; exact ⟨rfl, .inl rfl, rfl, rfl, rfl, rfl⟩
theorem moved_self {c : List UInt32} {s : Nat} {m : Mt} : movedW c s m m = [] := by unfold movedW; rw [(eqM_iff m m).2 rfl, if_pos rfl]
theorem eql_win0 (w : World) : (Op.equalIn 10000 38 (.agg #[.int .i64 0, .int .u64 0]) (.agg #[.int .i64 0, .int .u64 0])).run Tryd.prog w = .ok true w := by
  simp [go_sem]
def FRel (me : Int) (l : List ByteArray) (w : World) (mm : Nat) (b i : Value) (wr : World) : Prop :=
  ∃ (k : Nat) (c : List UInt32) (B : Option Addr) (p : Nat) (m : Mt), mm + k = l.length ∧ k ≤ 100 ∧ k ≤ l.length ∧ i = .int .i64 k ∧ b = .slice B c.length p ∧ c.length ≤ p ∧ Pk c m ∧ m.cr = 0 ∧ m.me = me ∧ m.wh = 0 ∧ m.wb = 0 ∧ RdE 1 encW wr B c ∧ Below w.heap.size w wr
set_option maxHeartbeats 8000000 in
theorem walk (me : Int) (l : List ByteArray) (L : Option Addr) (lq : Nat) (w : World) (w1 : (Lit.int .i64 me).wf = true) (hl : RdE 1 (fun s : ByteArray => [.string s]) w L l) (hok : ∀ s ∈ l, s.size ≤ maxLen) :
    Calls Tryd.prog 7 #[.int .i64 me, .slice L l.length lq] w fun e w' => e = .returned (.bool true) ∧ Below w.heap.size w w' := by
  obtain ⟨m0, m1⟩ := i64_bound w1
  clear w1 hok
  have hlm := hl.1
  have HL := Lib.hid hl
  clear hl
  have HPM := Lib.hid (fun W => picked_any me 50 W m0 m1 (by omega))
  obtain ⟨p0, p1⟩ := pk_bound me 50 (by decide)
  generalize pk me 50 = me' at *
  have HMK := Lib.hid (fun W => Make_any me' W p0 p1)
  have HMP := Lib.hid (make_pk me' p0 p1)
  clear p0 p1
  go_enter Tryd.func7, Tryd.ntmps7
  go_wp2_with fail
  go_at_call 17
  refine (HPM.out _).mono ?_
  rintro e w' ⟨rfl, rfl⟩
  go_wp2_with (fail)
  go_at_call 23
  refine (HMK.out _).mono ?_
  rintro e w1 ⟨B0, q0, rfl, ho, hb⟩
  have hwz1 := hb.size
  try simp at hwz1
  have HBw1 : Hid (Below w.heap.size w w1) := Lib.hid (below_then' (by repeat (first | with_reducible exact Below.refl _ _ | with_reducible refine blw_alloc ?_ _ | with_reducible refine Below.drew ?_ | with_reducible refine blw_step ?_ _ | with_reducible refine Below.setCell (p := ⟨_, _, none⟩) ?_ (by first | exact Nat.le_refl _ | (simp; done) | (simp; omega) | omega) _)) hb)
  have HO := Lib.hid ho.read
  have hq0 := own_cap ho
  clear ho
  clear hb
  go_wp2_with fail
  go_loopg [5, 7] l.length (fun mm b i wr => FRel me' l w mm b i wr)
  case atStart => exact ⟨0, makeL me', B0, q0, beginM me', by omega, by omega, by omega, rfl, rfl, hq0, HMP.out, rfl, rfl, rfl, rfl, HO.out, HBw1.out⟩
  case round =>
    obtain ⟨k, c, B, p, m, hmm, hk12, hkl, rfl, rfl, hcap, hpk, c1, c2, c3, c4, hw, hbl⟩ := hrel
    have HB := Lib.hid hbl
    have HW := Lib.hid hw
    have HPK := Lib.hid hpk
    have HCAP := Lib.hid hcap
    clear HO HBw1 hw hbl hpk hcap hq0
    try clear hw1z1
    try clear hwz1
    by_cases hlt : k < l.length ∧ k < 100
    · obtain ⟨hk1, hk2⟩ := hlt
      have hki : (k : Int) < (l.length : Int) := by omega
      have hk0 : (0 : Int) ≤ (k : Int) := by omega
      have hk3 : (k : Int) < 100 := by omega
      obtain ⟨ad, hL, x0⟩ := (HL.out.below HB.out).at1 k hk1 _ rfl
      subst hL
      generalize l[k] = S at *
      obtain ⟨s, hs⟩ := HPK.out.newer
      have hs2 := newer_lt hs
      have HK : Hid (∀ W, RdE 1 encW W B c → Calls Tryd.prog 24 #[.slice B c.length p, .agg #[.slice none 0 0], .string S] W fun e w' => ∃ G g, e = .returned (.tuple #[.slice G (movedW c s m (keyedR m [] S.data.toList).1).length g, .int .i64 (keyedR m [] S.data.toList).2.1, .int .i64 (keyedR m [] S.data.toList).2.2]) ∧ OwWr W.heap.size w' G g (movedW c s m (keyedR m [] S.data.toList).1) ∧ Below W.heap.size W w') := Lib.hid (fun W hW => Keyed_any c m [] S s B none p 0 W hW HPK.out hs HCAP.out RdE.nil (by simp) Kept.nil.good)
      obtain ⟨f1, f2, f3, f4, f5, f6⟩ := forged m S.data.toList
      obtain ⟨kk1, kk2⟩ := keyed_keep m [] S.data.toList HPK.out.ok HPK.out.may
      have hpk2 := moved_pk (next := (keyedR m [] S.data.toList).1) HPK.out hs kk1 kk2
      have hin2 := moved_in (old := m) (next := (keyedR m [] S.data.toList).1) HPK.out.len hs2
      have hln := moved_len c s m (keyedR m [] S.data.toList).1
      have hcl := HPK.out.len
      have hno : movedW c s m (keyedR m [] S.data.toList).1 ≠ [] → (keyedR m [] S.data.toList).2.2 = 12 := fun h => by
        rcases f2 with h2 | h2
        · rw [h2, moved_self] at h; exact absurd rfl h
        · exact h2
      have HAP := Lib.hid (fun G g W hc hw hg => apply_all c (movedW c s m (keyedR m [] S.data.toList).1) B G p g W hc hw (by omega) (by omega) (by omega) hg hin2)
      generalize movedW c s m (keyedR m [] S.data.toList).1 = MW at *
      generalize keyedR m [] S.data.toList = K at *
      obtain ⟨M2, ad2, co⟩ := K
      simp only at *
      subst f1
      have HP2 := Lib.hid hpk2
      have HCL := Lib.hid hcl
      have F3 := Lib.hid (f3.trans c1)
      have F4 := Lib.hid (f4.trans c2)
      have F5 := Lib.hid (f5.trans c3)
      have F6 := Lib.hid (f6.trans c4)
      have C1 := Lib.hid c1
      have C2 := Lib.hid c2
      have C3 := Lib.hid c3
      have C4 := Lib.hid c4
      clear hpk2 hcl f2 f3 f4 f5 f6 c1 c2 c3 c4 kk1 kk2 hin2 hs hs2
      go_wp2_with (fail)
      go_at_call 24
      refine (HK.out _ HW.out).mono ?_
      rintro e v1 ⟨G, g, rfl, ho, hb⟩
      have hvz1 := hb.size
      try simp at hvz1
      have HBv1 : Hid (Below w.heap.size w v1) := Lib.hid (below_then' (by repeat (first | with_reducible exact HB.out | with_reducible refine blw_alloc ?_ _ | with_reducible refine Below.drew ?_ | with_reducible refine blw_step ?_ _ | with_reducible refine Below.setCell (p := ⟨_, _, none⟩) ?_ (by first | exact Nat.le_refl _ | (simp; done) | (simp; omega) | omega) _)) hb)
      have HG := Lib.hid ho.read
      have hgc := own_cap ho
      have HW2 := Lib.hid (HW.out.below hb)
      clear ho
      clear x0 hb
      by_cases hm0 : MW = []
      · have hz : MW.length = 0 := by rw [hm0]; rfl
        rw [hz]
        clear hm0 hz hln hno
        go_wp2_with fail
        go_roundg (l.length - (k + 1))
        case measure => omega
        case rel => exact ⟨k + 1, c, B, p, m, by omega, by omega, by omega, by go_num, rfl, HCAP.out, HPK.out, C1.out, C2.out, C3.out, C4.out, HW2.out, HBv1.out⟩
      · have hc12 := hno hm0
        subst hc12
        have hz : MW.length = 7 := by rcases hln with h | h; exact absurd (List.length_eq_zero_iff.1 h) hm0; exact h
        have hz1 : ((MW.length : Int) == 0) = false := beq_eq_false_iff_ne.mpr (by omega)
        have hz2 : (MW.length == 0) = false := beq_eq_false_iff_ne.mpr (by omega)
        clear hm0 hln hz hno
        go_wp2_with (fail)
        go_at_call 25
        refine (HAP.out G g _ HW2.out HG.out hgc).mono ?_
        rintro e v2 ⟨E, eq, rfl, ho, hb⟩
        have hvz2 := hb.size
        try simp at hvz2
        have HBv2 : Hid (Below w.heap.size w v2) := Lib.hid (below_then' (by repeat (first | with_reducible exact HBv1.out | with_reducible refine blw_alloc ?_ _ | with_reducible refine Below.drew ?_ | with_reducible refine blw_step ?_ _ | with_reducible refine Below.setCell (p := ⟨_, _, none⟩) ?_ (by first | exact Nat.le_refl _ | (simp; done) | (simp; omega) | omega) _)) hb)
        have HE := Lib.hid ho.read
        have hec := own_cap ho
        clear ho
        clear hb
        go_wp2_with fail
        go_roundg (l.length - (k + 1))
        case measure => omega
        case rel => exact ⟨k + 1, _, E, eq, M2, by omega, by omega, by omega, by go_num, rfl, hec, HP2.out, F3.out, F4.out, F5.out, F6.out, HE.out, HBv2.out⟩
    · have HBT := Lib.hid (fun W hW => Boot_any c m B p W hW HPK.out HCAP.out)
      obtain ⟨a0, a1, a2, a3, a4, a5, a6⟩ := m
      simp only at c1 c2 c3 c4
      subst c1 c2 c3 c4
      unfold Mt.vals at HBT
      simp only at HBT
      rw [show (((0 : Nat)) : Int) = 0 from rfl] at HBT
      by_cases hk1 : k < l.length
      · have hki : (k : Int) < (l.length : Int) := by omega
        obtain rfl : k = 100 := by omega
        clear hlt hk1
        have hweq : ∀ W, (Op.equalIn 10000 38 (.agg #[.int .i64 0, .int .u64 0]) (.agg #[.int .i64 0, .int .u64 0])).run Tryd.prog W = .ok true W := fun W => eql_win0 W
        go_wp2_with (fail)
        go_at_call 26
        refine (HBT.out _ HW.out).mono ?_
        rintro e v1 ⟨rfl, hb⟩
        have hvz1 := hb.size
        try simp at hvz1
        have HBv1 : Hid (Below w.heap.size w v1) := Lib.hid (below_then' (by repeat (first | with_reducible exact HB.out | with_reducible refine blw_alloc ?_ _ | with_reducible refine Below.drew ?_ | with_reducible refine blw_step ?_ _ | with_reducible refine Below.setCell (p := ⟨_, _, none⟩) ?_ (by first | exact Nat.le_refl _ | (simp; done) | (simp; omega) | omega) _)) hb)
        clear hb
        go_wp2_with fail
        go_quiet ((go_at_call 17; exact quiet_same (HPM.out _)))
        go_wp2_with fail
        go_ret
        exact ⟨rfl, blw_step (blw_alloc HBv1.out _) _⟩
      · have hki : ¬ (k : Int) < (l.length : Int) := by omega
        clear hlt hk1
        have hweq : ∀ W, (Op.equalIn 10000 38 (.agg #[.int .i64 0, .int .u64 0]) (.agg #[.int .i64 0, .int .u64 0])).run Tryd.prog W = .ok true W := fun W => eql_win0 W
        go_wp2_with (fail)
        go_at_call 26
        refine (HBT.out _ HW.out).mono ?_
        rintro e v1 ⟨rfl, hb⟩
        have hvz1 := hb.size
        try simp at hvz1
        have HBv1 : Hid (Below w.heap.size w v1) := Lib.hid (below_then' (by repeat (first | with_reducible exact HB.out | with_reducible refine blw_alloc ?_ _ | with_reducible refine Below.drew ?_ | with_reducible refine blw_step ?_ _ | with_reducible refine Below.setCell (p := ⟨_, _, none⟩) ?_ (by first | exact Nat.le_refl _ | (simp; done) | (simp; omega) | omega) _)) hb)
        clear hb
        go_wp2_with fail
        go_quiet ((go_at_call 17; exact quiet_same (HPM.out _)))
        go_wp2_with fail
        go_ret
        exact ⟨rfl, blw_step (blw_alloc HBv1.out _) _⟩
end Go.Proofs.YtccjcdecpgigpaaDoor.PocketForged
