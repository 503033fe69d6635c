/- The walk of WideBack. -/
import Derived.Test.YtjfjmlcibhdilaaRead
import Derived.Test.YtjfjmlcibhdilaaOpenW
namespace Go.Proofs.Ytjfjmlcibhdilaa.WideBack
open Go.RowKit Go.Proofs.Ytjfjmlcibhdilaa.Base Go.Proofs.Ytjfjmlcibhdilaa.Word Go.Proofs.Ytjfjmlcibhdilaa.Dig Go.Proofs.Ytjfjmlcibhdilaa.Show Go.Proofs.Ytjfjmlcibhdilaa.Read
set_option linter.unusedVariables false
set_option linter.unusedSimpArgs false
set_option maxRecDepth 20000
attribute [local go_sem] eq_w3
set_option maxHeartbeats 1000000 in
theorem walk (x : W3) (cs : List Value) (w : World) (hx : cs = x.cs ∧ x.ok) :
    Calls Try.prog 3 #[.agg cs.toArray] w fun e w' => e = .returned (.bool true) ∧ Below w.heap.size w w' := by
  obtain ⟨rfl, ok⟩ := hx
  show Calls Try.prog 3 #[.agg #[.int .u32 x.a, .int .u32 x.b, .int .u32 x.c]] w _
  have HS := Lib.hid (fun w => show_any x w ok)
  have hnb : natOf x < 79228162514264337593543950336 := by have := num_bound ok; unfold natOf; omega
  have hlen : (decS (natOf x)).length ≤ 29 := decS_len 28 _ (by have := num_bound ok; unfold natOf; omega)
  have hpos := decS_pos (natOf x)
  obtain ⟨S, hS⟩ : ∃ S, S = strOf (decS (natOf x)) := ⟨_, rfl⟩
  have hl : S.data.toList = decS (natOf x) := by rw [hS, strOf_data]
  have hsz : S.size = (decS (natOf x)).length := by rw [hS, strOf_size]
  have hsz1 : S.size ≤ 29 := by omega
  have hr := fun w => read_any S w (by omega) (by omega) (by rw [hl]; exact decS_digits _) (by
    rw [hl, hsz]
    by_cases h2 : 2 ≤ (decS (natOf x)).length
    · exact .inr (fun c hc => decS_head _ (decS_len2 _ h2) c hc)
    · exact .inl (by omega)) (by rw [hl, val_decS]; exact hnb)
  rw [hl, val_decS, ← wOf_eq ok] at hr
  have HR := Lib.hid hr
  rw [← hS] at HS
  clear hr hS hl hsz hnb hlen hpos ok
  go_enter Try.func3, Try.ntmps3
  go_wp2_with (fail)
  go_at_call 15
  refine (HS.out _).mono ?_
  rintro e w1 ⟨rfl, hb⟩
  obtain ⟨bc, bf⟩ := bcell hb
  have hz1 := hb.size
  simp at hz1
  have HB := Lib.hid (below_then' (blw_alloc (Below.refl _ _) _) hb)
  have lt1 : w.heap.size < w1.heap.size := by omega
  have ag0 : w1.cell? ⟨w.heap.size, 0, none⟩ = some (.int .u32 x.a) := by rw [bc _ _ (by simp <;> omega)]; go_simp
  have ag1 : w1.cell? ⟨w.heap.size, 1, none⟩ = some (.int .u32 x.b) := by rw [bc _ _ (by simp <;> omega)]; go_simp
  have ag2 : w1.cell? ⟨w.heap.size, 2, none⟩ = some (.int .u32 x.c) := by rw [bc _ _ (by simp <;> omega)]; go_simp
  clear hb bc bf
  go_wp2_with (fail)
  go_at_call 16
  refine (HR.out _).mono ?_
  rintro e w2 ⟨rfl, hb⟩
  obtain ⟨bc, bf⟩ := bcell hb
  have hz2 := hb.size
  have HB2 := Lib.hid (below_then' HB.out hb)
  have lt2 : w.heap.size < w2.heap.size := by omega
  have bg0 := (bc w.heap.size 0 lt1).trans ag0
  have bg1 := (bc w.heap.size 1 lt1).trans ag1
  have bg2 := (bc w.heap.size 2 lt1).trans ag2
  clear hb bc bf ag0 ag1 ag2
  have hs29 : decide ((S.size : Int) ≤ 29) = true := decide_eq_true (by omega)
  go_wp2_with (fail)
  go_ret
  exact ⟨by first | rfl | exact ret_bool (by simp), blw_alloc HB2.out _⟩
end Go.Proofs.Ytjfjmlcibhdilaa.WideBack
