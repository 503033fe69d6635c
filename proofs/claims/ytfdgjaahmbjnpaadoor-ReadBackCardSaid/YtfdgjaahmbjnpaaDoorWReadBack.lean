/- The walk of ReadBack. -/
import Derived.Test.YtfdgjaahmbjnpaaDoorCts2
import Derived.Test.YtfdgjaahmbjnpaaDoorNum
namespace Go.Proofs.YtfdgjaahmbjnpaaDoor.ReadBack
open Go Go.RowKit Go.Proofs.YtfdgjaahmbjnpaaDoor.Base Go.Proofs.YtfdgjaahmbjnpaaDoor.Num Go.Proofs.YtfdgjaahmbjnpaaDoor.Lay Go.Proofs.YtfdgjaahmbjnpaaDoor.Cts
set_option linter.unusedVariables false
set_option linter.unusedSimpArgs false
set_option maxRecDepth 20000
theorem walk (s : ByteArray) (w : World) (hsz : s.size ≤ 140737488351232) (hT : Tb w) (hM : Mx w) :
    Calls Tryd.prog 4 #[.string s] w fun e w' => e = .returned (.bool true) ∧ Below w.heap.size w w' := by
  have HR := Lib.hid (fun W h => Read_any s W h)
  have hbad := read_bad s.data.toList
  have hgood := read_show s.data.toList
  generalize readL s.data.toList = R at *
  obtain ⟨n, e⟩ := R
  simp only at HR hbad
  have HT := Lib.hid hT
  have HM := Lib.hid hM
  clear hT hM
  by_cases he : e = 0
  · subst he
    obtain ⟨h1, h2, h3⟩ := hgood n rfl
    have HS := Lib.hid (fun W h => Show_any n W h2 h3 h)
    rw [h1, show bs s.data.toList = s from bytes_ext rfl] at HS
    clear hbad hgood h1
    go_enter Tryd.func4, Tryd.ntmps4
    go_wp2_with fail
    go_at_call 11
    refine (HR.out _ HM.out).mono ?_
    rintro e w1 ⟨rfl, hb1⟩
    have HB1 := Lib.hid hb1
    have T1 := Lib.hid (tb_below HT.out hb1)
    clear hb1
    go_wp2_with fail
    go_at_call 10
    refine (HS.out _ T1.out).mono ?_
    rintro e w2 ⟨rfl, hb2⟩
    have HB2 := Lib.hid (below_then' HB1.out hb2)
    clear hb2
    go_wp2_with fail
    go_ret
    exact ⟨rfl, HB2.out⟩
  · have hn := hbad he
    subst hn
    have e1 : (e == 0) = false := beq_eq_false_iff_ne.mpr he
    have e2 : (e != 0) = true := bne_iff_ne.mpr he
    clear hbad hgood he
    go_enter Tryd.func4, Tryd.ntmps4
    go_wp2_with fail
    go_at_call 11
    refine (HR.out _ HM.out).mono ?_
    rintro e w1 ⟨rfl, hb1⟩
    have HB1 := Lib.hid hb1
    clear hb1
    go_wp2_with fail
    go_ret
    exact ⟨rfl, HB1.out⟩
end Go.Proofs.YtfdgjaahmbjnpaaDoor.ReadBack
