/- The walk of PadPlain. -/
import Derived.Test.YthalkihhkkgkiaaDoorPadP
import Derived.Test.YthalkihhkkgkiaaDoorWPadUndo
namespace Go.Proofs.YthalkihhkkgkiaaDoor.PadPlain
open Go.RowKit Go.Proofs.YthalkihhkkgkiaaDoor.Base Go.Proofs.YthalkihhkkgkiaaDoor.Pad Go.Proofs.YthalkihhkkgkiaaDoor.Num
set_option linter.unusedVariables false
set_option linter.unusedSimpArgs false
set_option maxRecDepth 20000
set_option maxHeartbeats 4000000 in
theorem walk (raw : List UInt8) (A : Option Addr) (c : Nat) (w : World) (hr : RdE 1 encB w A raw) :
    Calls Tryd.prog 3 #[.slice A raw.length c] w fun e w' => e = .returned (.bool true) ∧ Below w.heap.size w w' := by
  obtain ⟨d, hdn, hln, hdg⟩ := PadUndo.num_list raw 30 (by decide)
  have hpos : d ≠ [] := by
    intro e
    have h1 := congrArg ByteArray.size hdn
    rw [e, strOf_size] at h1
    unfold numerals at h1
    split at h1
    · exact absurd h1 (by decide)
    · rename_i h2
      rw [strOf_size] at h1
      exact h2 (List.eq_nil_of_length_eq_zero h1.symm)
  have HN := Lib.hid (fun W (h : RdE 1 encB W A raw) => numerals_at raw 30 30 A c W h rfl (by decide) (by decide))
  rw [← hdn] at HN
  have HR := Lib.hid hr
  have hk := plain_keys d hdg hpos hln
  have hX : strOf d ++ (⟨#[35]⟩ : ByteArray) = strOf (d ++ [35]) := by
    apply bytes_ext
    rw [bytes_append, strOf_data, strOf_data]
  have hxs : (strOf (d ++ [35])).size ≤ 2000 := by rw [strOf_size]; simp; omega
  have HK := Lib.hid (fun W => keys_any (strOf (d ++ [35])) hxs W)
  rw [hk] at HK
  simp only [List.length_cons, List.length_nil, Nat.zero_add] at HK
  have hsz : (strOf d).size ≤ 30 := by rw [strOf_size]; exact hln
  have hc1 : ¬ 9223372036854775807 < (strOf d).size + 1 := by omega
  unfold Pd.vals at HK
  rw [show strOf [] = (⟨#[]⟩ : ByteArray) from rfl] at HK
  have hen : ∀ W B (A1 : Option Addr) q, OwEn B W A1 q [⟨d, 0⟩] → ∃ g, A1 = some ⟨g, 0, none⟩ ∧ W.cell? ⟨g, 0, none⟩ = some (.string (strOf d)) ∧ W.cell? ⟨g, 1, none⟩ = some (.int .i64 0) := by
    intro W B A1 q h
    obtain ⟨g, hg, _, _⟩ := own_addr h (by simp)
    subst hg
    refine ⟨g, rfl, ?_, ?_⟩
    · exact h.cellAt 0 (by simp)
    · exact h.cellAt 1 (by simp)
  have HEN := Lib.hid hen
  clear hen hk hxs hdn hdg hpos hln hr
  generalize strOf (d ++ [35]) = X at *
  generalize hS : strOf d = S at *
  clear hS
  generalize raw.length = rl at *
  go_enter Tryd.func3, Tryd.ntmps3
  go_wp2_with (fail)
  go_at_call 7
  refine (HN.out _ HR.out).mono ?_
  rintro e w1 ⟨rfl, hb⟩
  have hwz1 := hb.size
  try simp at hwz1
  have HBw1 : Hid (Below w.heap.size w w1) := Lib.hid (below_then' (by repeat (first | with_reducible exact Below.refl _ _ | with_reducible refine blw_alloc ?_ _ | with_reducible refine Below.drew ?_ | with_reducible refine blw_step ?_ _ | with_reducible refine Below.setCell (p := ⟨_, _, none⟩) ?_ (by first | exact Nat.le_refl _ | (simp; done) | (simp; omega) | omega) _)) hb)
  clear hb
  go_wp2_with (fail)
  go_at_call 8
  refine (HK.out _).mono ?_
  rintro e w2 ⟨⟨A1, q, rfl, ho⟩, _, hb⟩
  have hwz2 := hb.size
  try simp at hwz2
  have HBw2 : Hid (Below w.heap.size w w2) := Lib.hid (below_then' (by repeat (first | with_reducible exact HBw1.out | with_reducible refine blw_alloc ?_ _ | with_reducible refine Below.drew ?_ | with_reducible refine blw_step ?_ _ | with_reducible refine Below.setCell (p := ⟨_, _, none⟩) ?_ (by first | exact Nat.le_refl _ | (simp; done) | (simp; omega) | omega) _)) hb)
  obtain ⟨g, rfl, e0, e1⟩ := HEN.out _ _ _ _ ho
  clear ho
  clear hb
  have lg := World.block_lt_of_cell? w2 _ e0
  go_wp2_with fail
  go_ret
  exact ⟨rfl, blw_alloc HBw2.out _⟩
end Go.Proofs.YthalkihhkkgkiaaDoor.PadPlain
