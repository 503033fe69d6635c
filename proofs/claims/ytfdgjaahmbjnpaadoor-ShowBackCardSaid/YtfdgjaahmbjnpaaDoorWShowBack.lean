/- The walk of ShowBack. -/
import Derived.Test.YtfdgjaahmbjnpaaDoorCts2
import Derived.Test.YtfdgjaahmbjnpaaDoorNum
namespace Go.Proofs.YtfdgjaahmbjnpaaDoor.ShowBack
open Go Go.RowKit Go.Proofs.YtfdgjaahmbjnpaaDoor.Base Go.Proofs.YtfdgjaahmbjnpaaDoor.Num Go.Proofs.YtfdgjaahmbjnpaaDoor.Lay Go.Proofs.YtfdgjaahmbjnpaaDoor.Cts
set_option linter.unusedVariables false
set_option linter.unusedSimpArgs false
set_option maxRecDepth 20000
theorem walk (n : Int) (w : World) (w1 : (Lit.int .i64 n).wf = true) (hT : Tb w) (hM : Mx w) :
    Calls Tryd.prog 3 #[.int .i64 n] w fun e w' => e = .returned (.bool true) ∧ Below w.heap.size w w' := by
  obtain ⟨m0, m1⟩ := i64_bound w1
  clear w1
  have HPK := Lib.hid (fun W => picked_any n 2000000000001 W m0 m1 (by omega))
  obtain ⟨f0, f1⟩ := pk_bound n 2000000000001 (by decide)
  obtain ⟨k, hk⟩ : ∃ k, k = pk n 2000000000001 := ⟨_, rfl⟩
  rw [← hk] at HPK f0 f1
  clear hk
  have g0 : -1000000000000 ≤ k - 1000000000000 := by omega
  have g1 : k - 1000000000000 ≤ 1000000000000 := by omega
  have HS := Lib.hid (fun W h => Show_any (k - 1000000000000) W g0 g1 h)
  have HR := Lib.hid (fun W h => Read_any (bs (showL (k - 1000000000000))) W h)
  rw [bs_list, show_read _ g0 g1] at HR
  have HW : Hid (IntKind.i64.wrap (k - 1000000000000) = k - 1000000000000) := Lib.hid (by rw [IntKind.wrap_i64]; omega)
  generalize bs (showL (k - 1000000000000)) = S at *
  have HT := Lib.hid hT
  have HM := Lib.hid hM
  clear hT hM
  go_enter Tryd.func3, Tryd.ntmps3
  go_wp2_with fail
  go_at_call 9
  refine (HPK.out _).mono ?_
  rintro e w' ⟨rfl, rfl⟩
  go_wp2_with fail
  go_at_call 10
  refine (HS.out _ HT.out).mono ?_
  rintro e w1 ⟨rfl, hb1⟩
  have HB1 := Lib.hid hb1
  have M1 := Lib.hid (mx_below HM.out hb1)
  clear hb1
  go_wp2_with fail
  go_at_call 11
  refine (HR.out _ M1.out).mono ?_
  rintro e w2 ⟨rfl, hb2⟩
  have HB2 := Lib.hid (below_then' HB1.out hb2)
  clear hb2
  go_wp2_with fail
  go_ret
  exact ⟨rfl, HB2.out⟩
end Go.Proofs.YtfdgjaahmbjnpaaDoor.ShowBack
