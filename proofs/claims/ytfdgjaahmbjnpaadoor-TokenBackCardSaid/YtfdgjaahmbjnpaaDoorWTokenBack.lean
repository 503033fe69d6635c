/- The walk of TokenBack. -/
import Derived.Test.YtfdgjaahmbjnpaaDoorTokQ
namespace Go.Proofs.YtfdgjaahmbjnpaaDoor.TokenBack
open Go.RowKit Go.Proofs.YtfdgjaahmbjnpaaDoor.Base Go.Proofs.YtfdgjaahmbjnpaaDoor.Tok
set_option linter.unusedVariables false
set_option linter.unusedSimpArgs false
set_option maxRecDepth 20000
set_option maxHeartbeats 4000000 in
theorem walk (x : Tk) (cs : List Value) (w : World) (hx : cs = x.vals.toList ∧ x.ok) :
    Calls Tryd.prog 6 #[.agg cs.toArray] w fun e w' => e = .returned (.bool true) ∧ Below w.heap.size w w' := by
  obtain ⟨rfl, xok⟩ := hx
  show Calls Tryd.prog 6 #[.agg x.vals] w _
  have HM := Lib.hid (fun W => made_any x W xok)
  have hg := made_good x
  generalize madeT x = T at *
  have HF := Lib.hid (fun W => format_yes T hg W)
  have HP := Lib.hid (fun W => parse_full (fmtS T) W)
  obtain ⟨p1, p2⟩ := parse_fmt hg
  rw [fmtS_list, p1, p2] at HP
  have hs := fmtS_size T hg
  generalize fmtS T = S at *
  clear hg p1 p2 xok
  obtain ⟨rcl, rid, ram, rtag⟩ := x
  obtain ⟨cl, id, am, tag⟩ := T
  unfold Tk.vals at HM HF HP ⊢
  simp only at HM HF HP ⊢
  go_enter Tryd.func6, Tryd.ntmps6
  go_wp2_with (fail)
  go_at_call 16
  refine (HM.out _).mono ?_
  rintro e w1 ⟨rfl, hb⟩
  have hwz1 := hb.size
  try simp at hwz1
  have HBw1 : Hid (Below w.heap.size w w1) := Lib.hid (below_then' (by repeat (first | with_reducible exact Below.refl _ _ | with_reducible refine blw_alloc ?_ _ | with_reducible refine Below.drew ?_ | with_reducible refine blw_step ?_ _ | with_reducible refine Below.setCell (p := ⟨_, _, none⟩) ?_ (by first | exact Nat.le_refl _ | (simp; done) | (simp; omega) | omega) _)) hb)
  clear hb
  go_wp2_with (fail)
  go_at_call 17
  refine (HF.out _).mono ?_
  rintro e w2 ⟨rfl, hb⟩
  have hwz2 := hb.size
  try simp at hwz2
  have HBw2 : Hid (Below w.heap.size w w2) := Lib.hid (below_then' (by repeat (first | with_reducible exact HBw1.out | with_reducible refine blw_alloc ?_ _ | with_reducible refine Below.drew ?_ | with_reducible refine blw_step ?_ _ | with_reducible refine Below.setCell (p := ⟨_, _, none⟩) ?_ (by first | exact Nat.le_refl _ | (simp; done) | (simp; omega) | omega) _)) hb)
  have Ctw2 : Hid (Cs w2 (w1.heap.size) [.int .i64 cl, .int .i64 id, .int .i64 am, .int .i64 tag]) := Lib.hid ((show Cs _ (w1.heap.size) [.int .i64 cl, .int .i64 id, .int .i64 am, .int .i64 tag] from (by (repeat (first | (with_reducible refine Cs.new ?_; focus (first | rfl | (simp; done) | omega)) | with_reducible refine Cs.alloc ?_ _ | with_reducible refine Cs.drew ?_ | with_reducible refine Cs.drewN ?_ _ | (with_reducible refine Cs.other ?_ ?_ _; focus (first | omega | (simp; omega))) | with_reducible apply Cs.put)) <;> first | rfl | (simp; done))).after hb)
  clear hb
  have ltw2 := Ctw2.out.1
  go_wp2_with (fail)
  go_at_call 18
  refine (HP.out _).mono ?_
  rintro e w3 ⟨rfl, hb⟩
  have hwz3 := hb.size
  try simp at hwz3
  have HBw3 : Hid (Below w.heap.size w w3) := Lib.hid (below_then' (by repeat (first | with_reducible exact HBw2.out | with_reducible refine blw_alloc ?_ _ | with_reducible refine Below.drew ?_ | with_reducible refine blw_step ?_ _ | with_reducible refine Below.setCell (p := ⟨_, _, none⟩) ?_ (by first | exact Nat.le_refl _ | (simp; done) | (simp; omega) | omega) _)) hb)
  have Ctw3 : Hid (Cs w3 (w1.heap.size) [.int .i64 cl, .int .i64 id, .int .i64 am, .int .i64 tag]) := Lib.hid ((show Cs _ (w1.heap.size) [.int .i64 cl, .int .i64 id, .int .i64 am, .int .i64 tag] from (by (repeat (first | with_reducible exact Ctw2.out | (with_reducible refine Cs.new ?_; focus (first | rfl | (simp; done) | omega)) | with_reducible refine Cs.alloc ?_ _ | with_reducible refine Cs.drew ?_ | with_reducible refine Cs.drewN ?_ _ | (with_reducible refine Cs.other ?_ ?_ _; focus (first | omega | (simp; omega))) | with_reducible apply Cs.put)) <;> first | rfl | (simp; done))).after hb)
  clear hb
  have ltw3 := Ctw3.out.1
  have tw3g0 := (Ctw3.out.at 0 rfl).1
  have tw3g1 := (Ctw3.out.at 1 rfl).1
  have tw3g2 := (Ctw3.out.at 2 rfl).1
  have tw3g3 := (Ctw3.out.at 3 rfl).1
  go_wp2_with fail
  go_ret
  exact ⟨rfl, blw_alloc HBw3.out _⟩
end Go.Proofs.YtfdgjaahmbjnpaaDoor.TokenBack
