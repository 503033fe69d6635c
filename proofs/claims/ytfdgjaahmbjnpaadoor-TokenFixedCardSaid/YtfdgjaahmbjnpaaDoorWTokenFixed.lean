/- The walk of TokenFixed. -/
import Derived.Test.YtfdgjaahmbjnpaaDoorTokQ
namespace Go.Proofs.YtfdgjaahmbjnpaaDoor.TokenFixed
open Go.RowKit Go.Proofs.YtfdgjaahmbjnpaaDoor.Base Go.Proofs.YtfdgjaahmbjnpaaDoor.Tok
set_option linter.unusedVariables false
set_option linter.unusedSimpArgs false
set_option maxRecDepth 20000
set_option maxHeartbeats 4000000 in
theorem walk (s : ByteArray) (w : World) (hsz : s.size ≤ 140737488351232) :
    Calls Tryd.prog 7 #[.string s] w fun e w' => e = .returned (.bool true) ∧ Below w.heap.size w w' := by
  have HP := Lib.hid (fun W => parse_full s W)
  by_cases h0 : parseE s.data.toList = 0
  · obtain ⟨hg, hf⟩ := fmt_parse h0
    rw [h0] at HP
    generalize parseT s.data.toList = T at *
    have HF := Lib.hid (fun W => format_yes T hg W)
    have hS : fmtS T = s := bytes_ext (by rw [fmtS_list]; exact hf)
    rw [hS] at HF
    clear hg hf hS h0
    obtain ⟨cl, id, am, tag⟩ := T
    unfold Tk.vals at HF HP
    simp only at HF HP
    go_enter Tryd.func7, Tryd.ntmps7
    go_wp2_with (fail)
    go_at_call 18
    refine (HP.out _).mono ?_
    rintro e w1 ⟨rfl, hb⟩
    have hwz1 := hb.size
    try simp at hwz1
    have HBw1 : Hid (Below w.heap.size w w1) := Lib.hid (below_then' (by repeat (first | with_reducible exact Below.refl _ _ | with_reducible refine blw_alloc ?_ _ | with_reducible refine Below.drew ?_ | with_reducible refine blw_step ?_ _ | with_reducible refine Below.setCell (p := ⟨_, _, none⟩) ?_ (by first | exact Nat.le_refl _ | (simp; done) | (simp; omega) | omega) _)) hb)
    clear hb
    go_wp2_with (fail)
    go_at_call 17
    refine (HF.out _).mono ?_
    rintro e w2 ⟨rfl, hb⟩
    have hwz2 := hb.size
    try simp at hwz2
    have HBw2 : Hid (Below w.heap.size w w2) := Lib.hid (below_then' (by repeat (first | with_reducible exact HBw1.out | with_reducible refine blw_alloc ?_ _ | with_reducible refine Below.drew ?_ | with_reducible refine blw_step ?_ _ | with_reducible refine Below.setCell (p := ⟨_, _, none⟩) ?_ (by first | exact Nat.le_refl _ | (simp; done) | (simp; omega) | omega) _)) hb)
    clear hb
    go_wp2_with fail
    go_ret
    exact ⟨rfl, HBw2.out⟩
  · have ht : parseT s.data.toList = ⟨0, 0, 0, 0⟩ := by unfold parseT; rw [if_neg h0]
    rw [ht] at HP
    have hc : (parseE s.data.toList != 0) = true := bne_iff_ne.mpr h0
    clear ht h0
    generalize parseE s.data.toList = c at *
    unfold Tk.vals at HP
    simp only at HP
    go_enter Tryd.func7, Tryd.ntmps7
    go_wp2_with (fail)
    go_at_call 18
    refine (HP.out _).mono ?_
    rintro e w1 ⟨rfl, hb⟩
    have hwz1 := hb.size
    try simp at hwz1
    have HBw1 : Hid (Below w.heap.size w w1) := Lib.hid (below_then' (by repeat (first | with_reducible exact Below.refl _ _ | with_reducible refine blw_alloc ?_ _ | with_reducible refine Below.drew ?_ | with_reducible refine blw_step ?_ _ | with_reducible refine Below.setCell (p := ⟨_, _, none⟩) ?_ (by first | exact Nat.le_refl _ | (simp; done) | (simp; omega) | omega) _)) hb)
    clear hb
    go_wp2_with fail
    go_ret
    exact ⟨rfl, blw_alloc HBw1.out _⟩
end Go.Proofs.YtfdgjaahmbjnpaaDoor.TokenFixed
