/- The walk of TokenApart. -/
import Derived.Test.YtfdgjaahmbjnpaaTokO
import Derived.Test.YtfdgjaahmbjnpaaTok3
import Derived.Test.YtfdgjaahmbjnpaaMade
import Derived.Laws.StructEq
namespace Go.Proofs.Ytfdgjaahmbjnpaa.TokenApart
open Go.RowKit Go.Proofs.Ytfdgjaahmbjnpaa.Base Go.Proofs.Ytfdgjaahmbjnpaa.Tok Go.Proofs.Ytfdgjaahmbjnpaa.Dig
set_option linter.unusedVariables false
set_option linter.unusedSimpArgs false
set_option maxRecDepth 20000
theorem eql_tk (a0 a1 a2 a3 b0 b1 b2 b3 : Int) (w : World) : (Op.equalIn 10000 37 (.agg #[.int .i64 a0, .int .i64 a1, .int .i64 a2, .int .i64 a3]) (.agg #[.int .i64 b0, .int .i64 b1, .int .i64 b2, .int .i64 b3])).run Try.prog w = .ok (decide (a0 = b0 ∧ a1 = b1 ∧ a2 = b2 ∧ a3 = b3)) w := by
  simp only [Bool.decide_and]
  simp [go_sem]
  by_cases h : a0 = b0
  case neg => simp [h]
  case pos =>
  subst h
  simp only [if_true, decide_true, Bool.true_and]
  by_cases h : a1 = b1
  case neg => simp [h]
  case pos =>
  subst h
  simp only [if_true, decide_true, Bool.true_and]
  by_cases h : a2 = b2
  case neg => simp [h]
  case pos =>
  subst h
  simp only [if_true, decide_true, Bool.true_and]
  by_cases h : a3 = b3
  case neg => simp [h]
  case pos =>
  subst h
  simp only [if_true, decide_true, Bool.true_and]
theorem fmt_inj {a b : Tk} (ha : faultI a = 0) (hb : faultI b = 0) : fmtS a = fmtS b ↔ a = b := by
  constructor
  · intro h
    have h2 := congrArg (fun s => valL s.data.toList) h
    simp only [fmtS_list, fmt_val] at h2
    exact tokN_inj ha hb (by omega)
  · rintro rfl; rfl
theorem body_inj {a b : Tk} (ha : faultI a = 0) (hb : faultI b = 0) : bodyI a = bodyI b ↔ a.cl = b.cl ∧ a.id = b.id ∧ a.am = b.am := by
  obtain ⟨⟨_, _⟩, ⟨_, _⟩, ⟨_, _⟩, _, _⟩ := good_lim ha
  obtain ⟨⟨_, _⟩, ⟨_, _⟩, ⟨_, _⟩, _, _⟩ := good_lim hb
  unfold bodyI
  omega
theorem body_bd {a : Tk} (ha : faultI a = 0) : 0 ≤ bodyI a ∧ bodyI a ≤ 8796093022207 := by
  obtain ⟨⟨_, _⟩, ⟨_, _⟩, ⟨_, _⟩, _, _⟩ := good_lim ha
  unfold bodyI
  omega
set_option maxHeartbeats 8000000 in
theorem walk (x : Tk) (xs : List Value) (y : Tk) (ys : List Value) (w : World) (hx : xs = x.vals.toList ∧ x.ok) (hy : ys = y.vals.toList ∧ y.ok) :
    Calls Try.prog 8 #[.agg xs.toArray, .agg ys.toArray] w fun e w' => e = .returned (.bool true) ∧ Below w.heap.size w w' := by
  obtain ⟨rfl, xok⟩ := hx
  obtain ⟨rfl, yok⟩ := hy
  show Calls Try.prog 8 #[.agg x.vals, .agg y.vals] w _
  have HMX := Lib.hid (fun W => made_any x W xok)
  have HMY := Lib.hid (fun W => made_any y W yok)
  have ga := made_good x
  have gb := made_good y
  generalize madeT x = A at *
  generalize madeT y = B at *
  have HFA := Lib.hid (fun W => format_yes A ga W)
  have HFB := Lib.hid (fun W => format_yes B gb W)
  have HBA := Lib.hid (fun W => body_any A W)
  have HBB := Lib.hid (fun W => body_any B W)
  rw [if_pos ga, ga] at HBA
  rw [if_pos gb, gb] at HBB
  obtain ⟨n0, n1⟩ := body_bd ga
  have h1 : ((fmtS A).toList == (fmtS B).toList) = decide (A.cl = B.cl ∧ A.id = B.id ∧ A.am = B.am ∧ A.tag = B.tag) := by
    rw [bytes_toList, bytes_toList, Bool.eq_iff_iff, beq_iff_eq, decide_eq_true_iff]
    have h0 : A = B ↔ A.cl = B.cl ∧ A.id = B.id ∧ A.am = B.am ∧ A.tag = B.tag := by
      cases A; cases B; simp
    rw [← h0, ← fmt_inj ga gb]
    exact ⟨bytes_ext, fun h => by rw [h]⟩
  have h2 : (bodyI A == bodyI B) = decide (A.cl = B.cl ∧ A.id = B.id ∧ A.am = B.am) := by
    rw [Bool.eq_iff_iff, beq_iff_eq, decide_eq_true_iff, body_inj ga gb]
  generalize fmtS A = S at *
  generalize fmtS B = T at *
  generalize bodyI A = n at *
  generalize bodyI B = m at *
  clear ga gb xok yok
  obtain ⟨xcl, xid, xam, xtag⟩ := x
  obtain ⟨ycl, yid, yam, ytag⟩ := y
  obtain ⟨acl, aid, aam, atag⟩ := A
  obtain ⟨bcl, bid, bam, btag⟩ := B
  unfold Tk.vals at HMX HMY HFA HFB HBA HBB ⊢
  simp only [Tk.mk.injEq] at *
  have q1 := eql_tk acl aid aam atag bcl bid bam btag
  have q2 := eql_tk acl aid aam atag bcl bid bam atag
  simp only [and_true] at q2
  generalize decide (acl = bcl ∧ aid = bid ∧ aam = bam ∧ atag = btag) = d1 at *
  generalize decide (acl = bcl ∧ aid = bid ∧ aam = bam) = d2 at *
  go_enter Try.func8, Try.ntmps8
  go_wp2_with (fail)
  go_at_call 12
  refine (HMX.out _).mono ?_
  rintro e w1 ⟨rfl, hb⟩
  have hwz1 := hb.size
  try simp at hwz1
  have HBw1 : Hid (Below w.heap.size w w1) := Lib.hid (below_then' (by repeat (first | with_reducible exact Below.refl _ _ | with_reducible refine blw_alloc ?_ _ | with_reducible refine Below.drew ?_ | with_reducible refine blw_step ?_ _ | with_reducible refine Below.setCell (p := ⟨_, _, none⟩) ?_ (by first | exact Nat.le_refl _ | (simp; done) | (simp; omega) | omega) _)) hb)
  have Cxw1 : Hid (Cs w1 (w.heap.size) [.int .i64 xcl, .int .i64 xid, .int .i64 xam, .int .i64 xtag]) := Lib.hid ((show Cs _ (w.heap.size) [.int .i64 xcl, .int .i64 xid, .int .i64 xam, .int .i64 xtag] from (by (repeat (first | (with_reducible refine Cs.new ?_; focus (first | rfl | (simp; done) | omega)) | with_reducible refine Cs.alloc ?_ _ | with_reducible refine Cs.drew ?_ | with_reducible refine Cs.drewN ?_ _ | (with_reducible refine Cs.other ?_ ?_ _; focus (first | omega | (simp; omega))) | with_reducible apply Cs.put)) <;> first | rfl | (simp; done))).after hb)
  have Cyw1 : Hid (Cs w1 (w.heap.size + 1) [.int .i64 ycl, .int .i64 yid, .int .i64 yam, .int .i64 ytag]) := Lib.hid ((show Cs _ (w.heap.size + 1) [.int .i64 ycl, .int .i64 yid, .int .i64 yam, .int .i64 ytag] from (by (repeat (first | (with_reducible refine Cs.new ?_; focus (first | rfl | (simp; done) | omega)) | with_reducible refine Cs.alloc ?_ _ | with_reducible refine Cs.drew ?_ | with_reducible refine Cs.drewN ?_ _ | (with_reducible refine Cs.other ?_ ?_ _; focus (first | omega | (simp; omega))) | with_reducible apply Cs.put)) <;> first | rfl | (simp; done))).after hb)
  clear hb
  have lxw1 := Cxw1.out.1
  have lyw1 := Cyw1.out.1
  have yw1g0 := (Cyw1.out.at 0 rfl).1
  have yw1g1 := (Cyw1.out.at 1 rfl).1
  have yw1g2 := (Cyw1.out.at 2 rfl).1
  have yw1g3 := (Cyw1.out.at 3 rfl).1
  go_wp2_with (fail)
  go_at_call 12
  refine (HMY.out _).mono ?_
  rintro e w2 ⟨rfl, hb⟩
  have hwz2 := hb.size
  try simp at hwz2
  have HBw2 : Hid (Below w.heap.size w w2) := Lib.hid (below_then' (by repeat (first | with_reducible exact HBw1.out | with_reducible refine blw_alloc ?_ _ | with_reducible refine Below.drew ?_ | with_reducible refine blw_step ?_ _ | with_reducible refine Below.setCell (p := ⟨_, _, none⟩) ?_ (by first | exact Nat.le_refl _ | (simp; done) | (simp; omega) | omega) _)) hb)
  have Cxw2 : Hid (Cs w2 (w.heap.size) [.int .i64 xcl, .int .i64 xid, .int .i64 xam, .int .i64 xtag]) := Lib.hid ((show Cs _ (w.heap.size) [.int .i64 xcl, .int .i64 xid, .int .i64 xam, .int .i64 xtag] from (by (repeat (first | with_reducible exact Cxw1.out | (with_reducible refine Cs.new ?_; focus (first | rfl | (simp; done) | omega)) | with_reducible refine Cs.alloc ?_ _ | with_reducible refine Cs.drew ?_ | with_reducible refine Cs.drewN ?_ _ | (with_reducible refine Cs.other ?_ ?_ _; focus (first | omega | (simp; omega))) | with_reducible apply Cs.put)) <;> first | rfl | (simp; done))).after hb)
  have Cyw2 : Hid (Cs w2 (w.heap.size + 1) [.int .i64 ycl, .int .i64 yid, .int .i64 yam, .int .i64 ytag]) := Lib.hid ((show Cs _ (w.heap.size + 1) [.int .i64 ycl, .int .i64 yid, .int .i64 yam, .int .i64 ytag] from (by (repeat (first | with_reducible exact Cyw1.out | (with_reducible refine Cs.new ?_; focus (first | rfl | (simp; done) | omega)) | with_reducible refine Cs.alloc ?_ _ | with_reducible refine Cs.drew ?_ | with_reducible refine Cs.drewN ?_ _ | (with_reducible refine Cs.other ?_ ?_ _; focus (first | omega | (simp; omega))) | with_reducible apply Cs.put)) <;> first | rfl | (simp; done))).after hb)
  have Caw2 : Hid (Cs w2 (w1.heap.size) [.int .i64 acl, .int .i64 aid, .int .i64 aam, .int .i64 atag]) := Lib.hid ((show Cs _ (w1.heap.size) [.int .i64 acl, .int .i64 aid, .int .i64 aam, .int .i64 atag] from (by (repeat (first | (with_reducible refine Cs.new ?_; focus (first | rfl | (simp; done) | omega)) | with_reducible refine Cs.alloc ?_ _ | with_reducible refine Cs.drew ?_ | with_reducible refine Cs.drewN ?_ _ | (with_reducible refine Cs.other ?_ ?_ _; focus (first | omega | (simp; omega))) | with_reducible apply Cs.put)) <;> first | rfl | (simp; done))).after hb)
  clear yw1g0 yw1g1 yw1g2 yw1g3 hb
  have lxw2 := Cxw2.out.1
  have lyw2 := Cyw2.out.1
  have law2 := Caw2.out.1
  have aw2g0 := (Caw2.out.at 0 rfl).1
  have aw2g1 := (Caw2.out.at 1 rfl).1
  have aw2g2 := (Caw2.out.at 2 rfl).1
  have aw2g3 := (Caw2.out.at 3 rfl).1
  go_wp2_with (fail)
  go_at_call 27
  refine (HFA.out _).mono ?_
  rintro e w3 ⟨rfl, hb⟩
  have hwz3 := hb.size
  try simp at hwz3
  have HBw3 : Hid (Below w.heap.size w w3) := Lib.hid (below_then' (by repeat (first | with_reducible exact HBw2.out | with_reducible refine blw_alloc ?_ _ | with_reducible refine Below.drew ?_ | with_reducible refine blw_step ?_ _ | with_reducible refine Below.setCell (p := ⟨_, _, none⟩) ?_ (by first | exact Nat.le_refl _ | (simp; done) | (simp; omega) | omega) _)) hb)
  have Cxw3 : Hid (Cs w3 (w.heap.size) [.int .i64 xcl, .int .i64 xid, .int .i64 xam, .int .i64 xtag]) := Lib.hid ((show Cs _ (w.heap.size) [.int .i64 xcl, .int .i64 xid, .int .i64 xam, .int .i64 xtag] from (by (repeat (first | with_reducible exact Cxw2.out | (with_reducible refine Cs.new ?_; focus (first | rfl | (simp; done) | omega)) | with_reducible refine Cs.alloc ?_ _ | with_reducible refine Cs.drew ?_ | with_reducible refine Cs.drewN ?_ _ | (with_reducible refine Cs.other ?_ ?_ _; focus (first | omega | (simp; omega))) | with_reducible apply Cs.put)) <;> first | rfl | (simp; done))).after hb)
  have Cyw3 : Hid (Cs w3 (w.heap.size + 1) [.int .i64 ycl, .int .i64 yid, .int .i64 yam, .int .i64 ytag]) := Lib.hid ((show Cs _ (w.heap.size + 1) [.int .i64 ycl, .int .i64 yid, .int .i64 yam, .int .i64 ytag] from (by (repeat (first | with_reducible exact Cyw2.out | (with_reducible refine Cs.new ?_; focus (first | rfl | (simp; done) | omega)) | with_reducible refine Cs.alloc ?_ _ | with_reducible refine Cs.drew ?_ | with_reducible refine Cs.drewN ?_ _ | (with_reducible refine Cs.other ?_ ?_ _; focus (first | omega | (simp; omega))) | with_reducible apply Cs.put)) <;> first | rfl | (simp; done))).after hb)
  have Caw3 : Hid (Cs w3 (w1.heap.size) [.int .i64 acl, .int .i64 aid, .int .i64 aam, .int .i64 atag]) := Lib.hid ((show Cs _ (w1.heap.size) [.int .i64 acl, .int .i64 aid, .int .i64 aam, .int .i64 atag] from (by (repeat (first | with_reducible exact Caw2.out | (with_reducible refine Cs.new ?_; focus (first | rfl | (simp; done) | omega)) | with_reducible refine Cs.alloc ?_ _ | with_reducible refine Cs.drew ?_ | with_reducible refine Cs.drewN ?_ _ | (with_reducible refine Cs.other ?_ ?_ _; focus (first | omega | (simp; omega))) | with_reducible apply Cs.put)) <;> first | rfl | (simp; done))).after hb)
  have Cbw3 : Hid (Cs w3 (w2.heap.size) [.int .i64 bcl, .int .i64 bid, .int .i64 bam, .int .i64 btag]) := Lib.hid ((show Cs _ (w2.heap.size) [.int .i64 bcl, .int .i64 bid, .int .i64 bam, .int .i64 btag] from (by (repeat (first | (with_reducible refine Cs.new ?_; focus (first | rfl | (simp; done) | omega)) | with_reducible refine Cs.alloc ?_ _ | with_reducible refine Cs.drew ?_ | with_reducible refine Cs.drewN ?_ _ | (with_reducible refine Cs.other ?_ ?_ _; focus (first | omega | (simp; omega))) | with_reducible apply Cs.put)) <;> first | rfl | (simp; done))).after hb)
  clear aw2g0 aw2g1 aw2g2 aw2g3 hb
  have lxw3 := Cxw3.out.1
  have lyw3 := Cyw3.out.1
  have law3 := Caw3.out.1
  have lbw3 := Cbw3.out.1
  have bw3g0 := (Cbw3.out.at 0 rfl).1
  have bw3g1 := (Cbw3.out.at 1 rfl).1
  have bw3g2 := (Cbw3.out.at 2 rfl).1
  have bw3g3 := (Cbw3.out.at 3 rfl).1
  go_wp2_with (fail)
  go_at_call 27
  refine (HFB.out _).mono ?_
  rintro e w4 ⟨rfl, hb⟩
  have hwz4 := hb.size
  try simp at hwz4
  have HBw4 : Hid (Below w.heap.size w w4) := Lib.hid (below_then' (by repeat (first | with_reducible exact HBw3.out | with_reducible refine blw_alloc ?_ _ | with_reducible refine Below.drew ?_ | with_reducible refine blw_step ?_ _ | with_reducible refine Below.setCell (p := ⟨_, _, none⟩) ?_ (by first | exact Nat.le_refl _ | (simp; done) | (simp; omega) | omega) _)) hb)
  have Cxw4 : Hid (Cs w4 (w.heap.size) [.int .i64 xcl, .int .i64 xid, .int .i64 xam, .int .i64 xtag]) := Lib.hid ((show Cs _ (w.heap.size) [.int .i64 xcl, .int .i64 xid, .int .i64 xam, .int .i64 xtag] from (by (repeat (first | with_reducible exact Cxw3.out | (with_reducible refine Cs.new ?_; focus (first | rfl | (simp; done) | omega)) | with_reducible refine Cs.alloc ?_ _ | with_reducible refine Cs.drew ?_ | with_reducible refine Cs.drewN ?_ _ | (with_reducible refine Cs.other ?_ ?_ _; focus (first | omega | (simp; omega))) | with_reducible apply Cs.put)) <;> first | rfl | (simp; done))).after hb)
  have Cyw4 : Hid (Cs w4 (w.heap.size + 1) [.int .i64 ycl, .int .i64 yid, .int .i64 yam, .int .i64 ytag]) := Lib.hid ((show Cs _ (w.heap.size + 1) [.int .i64 ycl, .int .i64 yid, .int .i64 yam, .int .i64 ytag] from (by (repeat (first | with_reducible exact Cyw3.out | (with_reducible refine Cs.new ?_; focus (first | rfl | (simp; done) | omega)) | with_reducible refine Cs.alloc ?_ _ | with_reducible refine Cs.drew ?_ | with_reducible refine Cs.drewN ?_ _ | (with_reducible refine Cs.other ?_ ?_ _; focus (first | omega | (simp; omega))) | with_reducible apply Cs.put)) <;> first | rfl | (simp; done))).after hb)
  have Caw4 : Hid (Cs w4 (w1.heap.size) [.int .i64 acl, .int .i64 aid, .int .i64 aam, .int .i64 atag]) := Lib.hid ((show Cs _ (w1.heap.size) [.int .i64 acl, .int .i64 aid, .int .i64 aam, .int .i64 atag] from (by (repeat (first | with_reducible exact Caw3.out | (with_reducible refine Cs.new ?_; focus (first | rfl | (simp; done) | omega)) | with_reducible refine Cs.alloc ?_ _ | with_reducible refine Cs.drew ?_ | with_reducible refine Cs.drewN ?_ _ | (with_reducible refine Cs.other ?_ ?_ _; focus (first | omega | (simp; omega))) | with_reducible apply Cs.put)) <;> first | rfl | (simp; done))).after hb)
  have Cbw4 : Hid (Cs w4 (w2.heap.size) [.int .i64 bcl, .int .i64 bid, .int .i64 bam, .int .i64 btag]) := Lib.hid ((show Cs _ (w2.heap.size) [.int .i64 bcl, .int .i64 bid, .int .i64 bam, .int .i64 btag] from (by (repeat (first | with_reducible exact Cbw3.out | (with_reducible refine Cs.new ?_; focus (first | rfl | (simp; done) | omega)) | with_reducible refine Cs.alloc ?_ _ | with_reducible refine Cs.drew ?_ | with_reducible refine Cs.drewN ?_ _ | (with_reducible refine Cs.other ?_ ?_ _; focus (first | omega | (simp; omega))) | with_reducible apply Cs.put)) <;> first | rfl | (simp; done))).after hb)
  clear bw3g0 bw3g1 bw3g2 bw3g3 hb
  have lxw4 := Cxw4.out.1
  have lyw4 := Cyw4.out.1
  have law4 := Caw4.out.1
  have aw4g0 := (Caw4.out.at 0 rfl).1
  have aw4g1 := (Caw4.out.at 1 rfl).1
  have aw4g2 := (Caw4.out.at 2 rfl).1
  have aw4g3 := (Caw4.out.at 3 rfl).1
  have lbw4 := Cbw4.out.1
  go_wp2_with (fail)
  go_at_call 28
  refine (HBA.out _).mono ?_
  rintro e w5 ⟨rfl, hb⟩
  have hwz5 := hb.size
  try simp at hwz5
  have HBw5 : Hid (Below w.heap.size w w5) := Lib.hid (below_then' (by repeat (first | with_reducible exact HBw4.out | with_reducible refine blw_alloc ?_ _ | with_reducible refine Below.drew ?_ | with_reducible refine blw_step ?_ _ | with_reducible refine Below.setCell (p := ⟨_, _, none⟩) ?_ (by first | exact Nat.le_refl _ | (simp; done) | (simp; omega) | omega) _)) hb)
  have Cxw5 : Hid (Cs w5 (w.heap.size) [.int .i64 xcl, .int .i64 xid, .int .i64 xam, .int .i64 xtag]) := Lib.hid ((show Cs _ (w.heap.size) [.int .i64 xcl, .int .i64 xid, .int .i64 xam, .int .i64 xtag] from (by (repeat (first | with_reducible exact Cxw4.out | (with_reducible refine Cs.new ?_; focus (first | rfl | (simp; done) | omega)) | with_reducible refine Cs.alloc ?_ _ | with_reducible refine Cs.drew ?_ | with_reducible refine Cs.drewN ?_ _ | (with_reducible refine Cs.other ?_ ?_ _; focus (first | omega | (simp; omega))) | with_reducible apply Cs.put)) <;> first | rfl | (simp; done))).after hb)
  have Cyw5 : Hid (Cs w5 (w.heap.size + 1) [.int .i64 ycl, .int .i64 yid, .int .i64 yam, .int .i64 ytag]) := Lib.hid ((show Cs _ (w.heap.size + 1) [.int .i64 ycl, .int .i64 yid, .int .i64 yam, .int .i64 ytag] from (by (repeat (first | with_reducible exact Cyw4.out | (with_reducible refine Cs.new ?_; focus (first | rfl | (simp; done) | omega)) | with_reducible refine Cs.alloc ?_ _ | with_reducible refine Cs.drew ?_ | with_reducible refine Cs.drewN ?_ _ | (with_reducible refine Cs.other ?_ ?_ _; focus (first | omega | (simp; omega))) | with_reducible apply Cs.put)) <;> first | rfl | (simp; done))).after hb)
  have Caw5 : Hid (Cs w5 (w1.heap.size) [.int .i64 acl, .int .i64 aid, .int .i64 aam, .int .i64 atag]) := Lib.hid ((show Cs _ (w1.heap.size) [.int .i64 acl, .int .i64 aid, .int .i64 aam, .int .i64 atag] from (by (repeat (first | with_reducible exact Caw4.out | (with_reducible refine Cs.new ?_; focus (first | rfl | (simp; done) | omega)) | with_reducible refine Cs.alloc ?_ _ | with_reducible refine Cs.drew ?_ | with_reducible refine Cs.drewN ?_ _ | (with_reducible refine Cs.other ?_ ?_ _; focus (first | omega | (simp; omega))) | with_reducible apply Cs.put)) <;> first | rfl | (simp; done))).after hb)
  have Cbw5 : Hid (Cs w5 (w2.heap.size) [.int .i64 bcl, .int .i64 bid, .int .i64 bam, .int .i64 btag]) := Lib.hid ((show Cs _ (w2.heap.size) [.int .i64 bcl, .int .i64 bid, .int .i64 bam, .int .i64 btag] from (by (repeat (first | with_reducible exact Cbw4.out | (with_reducible refine Cs.new ?_; focus (first | rfl | (simp; done) | omega)) | with_reducible refine Cs.alloc ?_ _ | with_reducible refine Cs.drew ?_ | with_reducible refine Cs.drewN ?_ _ | (with_reducible refine Cs.other ?_ ?_ _; focus (first | omega | (simp; omega))) | with_reducible apply Cs.put)) <;> first | rfl | (simp; done))).after hb)
  clear aw4g0 aw4g1 aw4g2 aw4g3 hb
  have lxw5 := Cxw5.out.1
  have lyw5 := Cyw5.out.1
  have law5 := Caw5.out.1
  have lbw5 := Cbw5.out.1
  have bw5g0 := (Cbw5.out.at 0 rfl).1
  have bw5g1 := (Cbw5.out.at 1 rfl).1
  have bw5g2 := (Cbw5.out.at 2 rfl).1
  have bw5g3 := (Cbw5.out.at 3 rfl).1
  go_wp2_with (fail)
  go_at_call 28
  refine (HBB.out _).mono ?_
  rintro e w6 ⟨rfl, hb⟩
  have hwz6 := hb.size
  try simp at hwz6
  have HBw6 : Hid (Below w.heap.size w w6) := Lib.hid (below_then' (by repeat (first | with_reducible exact HBw5.out | with_reducible refine blw_alloc ?_ _ | with_reducible refine Below.drew ?_ | with_reducible refine blw_step ?_ _ | with_reducible refine Below.setCell (p := ⟨_, _, none⟩) ?_ (by first | exact Nat.le_refl _ | (simp; done) | (simp; omega) | omega) _)) hb)
  have Cxw6 : Hid (Cs w6 (w.heap.size) [.int .i64 xcl, .int .i64 xid, .int .i64 xam, .int .i64 xtag]) := Lib.hid ((show Cs _ (w.heap.size) [.int .i64 xcl, .int .i64 xid, .int .i64 xam, .int .i64 xtag] from (by (repeat (first | with_reducible exact Cxw5.out | (with_reducible refine Cs.new ?_; focus (first | rfl | (simp; done) | omega)) | with_reducible refine Cs.alloc ?_ _ | with_reducible refine Cs.drew ?_ | with_reducible refine Cs.drewN ?_ _ | (with_reducible refine Cs.other ?_ ?_ _; focus (first | omega | (simp; omega))) | with_reducible apply Cs.put)) <;> first | rfl | (simp; done))).after hb)
  have Cyw6 : Hid (Cs w6 (w.heap.size + 1) [.int .i64 ycl, .int .i64 yid, .int .i64 yam, .int .i64 ytag]) := Lib.hid ((show Cs _ (w.heap.size + 1) [.int .i64 ycl, .int .i64 yid, .int .i64 yam, .int .i64 ytag] from (by (repeat (first | with_reducible exact Cyw5.out | (with_reducible refine Cs.new ?_; focus (first | rfl | (simp; done) | omega)) | with_reducible refine Cs.alloc ?_ _ | with_reducible refine Cs.drew ?_ | with_reducible refine Cs.drewN ?_ _ | (with_reducible refine Cs.other ?_ ?_ _; focus (first | omega | (simp; omega))) | with_reducible apply Cs.put)) <;> first | rfl | (simp; done))).after hb)
  have Caw6 : Hid (Cs w6 (w1.heap.size) [.int .i64 acl, .int .i64 aid, .int .i64 aam, .int .i64 atag]) := Lib.hid ((show Cs _ (w1.heap.size) [.int .i64 acl, .int .i64 aid, .int .i64 aam, .int .i64 atag] from (by (repeat (first | with_reducible exact Caw5.out | (with_reducible refine Cs.new ?_; focus (first | rfl | (simp; done) | omega)) | with_reducible refine Cs.alloc ?_ _ | with_reducible refine Cs.drew ?_ | with_reducible refine Cs.drewN ?_ _ | (with_reducible refine Cs.other ?_ ?_ _; focus (first | omega | (simp; omega))) | with_reducible apply Cs.put)) <;> first | rfl | (simp; done))).after hb)
  have Cbw6 : Hid (Cs w6 (w2.heap.size) [.int .i64 bcl, .int .i64 bid, .int .i64 bam, .int .i64 btag]) := Lib.hid ((show Cs _ (w2.heap.size) [.int .i64 bcl, .int .i64 bid, .int .i64 bam, .int .i64 btag] from (by (repeat (first | with_reducible exact Cbw5.out | (with_reducible refine Cs.new ?_; focus (first | rfl | (simp; done) | omega)) | with_reducible refine Cs.alloc ?_ _ | with_reducible refine Cs.drew ?_ | with_reducible refine Cs.drewN ?_ _ | (with_reducible refine Cs.other ?_ ?_ _; focus (first | omega | (simp; omega))) | with_reducible apply Cs.put)) <;> first | rfl | (simp; done))).after hb)
  clear bw5g0 bw5g1 bw5g2 bw5g3 hb
  have lxw6 := Cxw6.out.1
  have lyw6 := Cyw6.out.1
  have law6 := Caw6.out.1
  have aw6g0 := (Caw6.out.at 0 rfl).1
  have aw6g1 := (Caw6.out.at 1 rfl).1
  have aw6g2 := (Caw6.out.at 2 rfl).1
  have aw6g3 := (Caw6.out.at 3 rfl).1
  have lbw6 := Cbw6.out.1
  have bw6g0 := (Cbw6.out.at 0 rfl).1
  have bw6f0 := (Cbw6.out.at 0 rfl).2
  have bw6g1 := (Cbw6.out.at 1 rfl).1
  have bw6f1 := (Cbw6.out.at 1 rfl).2
  have bw6g2 := (Cbw6.out.at 2 rfl).1
  have bw6f2 := (Cbw6.out.at 2 rfl).2
  have bw6g3 := (Cbw6.out.at 3 rfl).1
  have bw6f3 := (Cbw6.out.at 3 rfl).2
  go_upto_region 10 with fail
  obtain ⟨u, hu⟩ : ∃ u, u = w6.setCell ⟨w2.heap.size, 3, none⟩ (.int .i64 atag) := ⟨_, rfl⟩
  have nxb : w2.heap.size ≠ w.heap.size := by omega
  have nyb : w2.heap.size ≠ w.heap.size + 1 := by omega
  have nab : w2.heap.size ≠ w1.heap.size := by omega
  have Cxu : Hid (Cs u (w.heap.size) [.int .i64 xcl, .int .i64 xid, .int .i64 xam, .int .i64 xtag]) := Lib.hid (by rw [hu]; exact Cs.other (a := ⟨w2.heap.size, 3, none⟩) nxb Cxw6.out _)
  have Cyu : Hid (Cs u (w.heap.size + 1) [.int .i64 ycl, .int .i64 yid, .int .i64 yam, .int .i64 ytag]) := Lib.hid (by rw [hu]; exact Cs.other (a := ⟨w2.heap.size, 3, none⟩) nyb Cyw6.out _)
  have Cau : Hid (Cs u (w1.heap.size) [.int .i64 acl, .int .i64 aid, .int .i64 aam, .int .i64 atag]) := Lib.hid (by rw [hu]; exact Cs.other (a := ⟨w2.heap.size, 3, none⟩) nab Caw6.out _)
  have Cbu : Hid (Cs u (w2.heap.size) [.int .i64 bcl, .int .i64 bid, .int .i64 bam, .int .i64 atag]) := Lib.hid (by rw [hu]; exact Cs.put (i := 3) Cbw6.out (by simp) rfl)
  have HBu : Hid (Below w.heap.size w u) := Lib.hid (by rw [hu]; exact HBw6.out.setCell (p := ⟨w2.heap.size, 3, none⟩) (by simp; omega) _)
  rw [← hu]
  clear hu aw6g0 aw6g1 aw6g2 aw6g3 bw6g0 bw6f0 bw6g1 bw6f1 bw6g2 bw6f2 bw6g3 bw6f3
  have lxu := Cxu.out.1
  have xug0 := (Cxu.out.at 0 rfl).1
  have xug1 := (Cxu.out.at 1 rfl).1
  have xug2 := (Cxu.out.at 2 rfl).1
  have xug3 := (Cxu.out.at 3 rfl).1
  have lyu := Cyu.out.1
  have yug0 := (Cyu.out.at 0 rfl).1
  have yug1 := (Cyu.out.at 1 rfl).1
  have yug2 := (Cyu.out.at 2 rfl).1
  have yug3 := (Cyu.out.at 3 rfl).1
  go_cut [4] (fun s4 wx => s4 = .bool true ∧ Below w.heap.size w wx)
  case first =>
    go_region_law (first | (go_simp; go_at_call 12; with_reducible refine (HMX.out _).mono ?_; rintro e v1 ⟨rfl, hb1⟩; have y1g0 := (Cyu.out.drew.after hb1).at 0 rfl |>.1; have y1g1 := (Cyu.out.drew.after hb1).at 1 rfl |>.1; have y1g2 := (Cyu.out.drew.after hb1).at 2 rfl |>.1; have y1g3 := (Cyu.out.drew.after hb1).at 3 rfl |>.1; have lv1 := hb1.size) | (go_simp; go_at_call 12; with_reducible refine (HMY.out _).mono ?_; rintro e v2 ⟨rfl, hb2⟩; have a2g0 := ((Cau.out.drew.after hb1).after hb2).at 0 rfl |>.1; have b2g0 := ((Cbu.out.drew.after hb1).after hb2).at 0 rfl |>.1; have a2g1 := ((Cau.out.drew.after hb1).after hb2).at 1 rfl |>.1; have b2g1 := ((Cbu.out.drew.after hb1).after hb2).at 1 rfl |>.1; have a2g2 := ((Cau.out.drew.after hb1).after hb2).at 2 rfl |>.1; have b2g2 := ((Cbu.out.drew.after hb1).after hb2).at 2 rfl |>.1; have a2g3 := ((Cau.out.drew.after hb1).after hb2).at 3 rfl |>.1; have b2g3 := ((Cbu.out.drew.after hb1).after hb2).at 3 rfl |>.1; have HBV : Hid (Below w.heap.size w v2) := Lib.hid (below_then' (below_then' HBu.out.drew hb1) hb2)))
    all_goals
      go_wp2_with fail
      go_meet
      exact ⟨rfl, HBV.out⟩
  case rest =>
    obtain ⟨rfl, hb⟩ := hcut
    have HBX := Lib.hid hb
    clear hb
    go_wp2_with fail
    go_ret
    exact ⟨rfl, HBX.out⟩
end Go.Proofs.Ytfdgjaahmbjnpaa.TokenApart
