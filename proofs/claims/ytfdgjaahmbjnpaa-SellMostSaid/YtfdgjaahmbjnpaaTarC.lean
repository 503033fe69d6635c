/- Contracts: sort.SliceIsSorted at a tariff, tariff.Check; of the laws' helper stepped. -/
import Derived.Test.YtfdgjaahmbjnpaaTarP
import Derived.Test.YtfdgjaahmbjnpaaCs
import Derived.Lib.ReflectliteSlice
namespace Go.Proofs.Ytfdgjaahmbjnpaa.Tar
open Go.RowKit Go.Proofs.Ytfdgjaahmbjnpaa.Base
set_option linter.unusedVariables false
set_option linter.unusedSimpArgs false
set_option maxRecDepth 20000
def Stp.enc (x : Stp) : List Value := [.int .i64 x.upto, .int .i64 x.price]
theorem info_st : (Try.prog.info? 118).map (fun i => (i.zero, i.size, i.bytes)) = some (some (.agg #[.int .i64 0, .int .i64 0]), 2, 16) := by kernel_rfl
theorem TG.each : ∀ {t : List Stp} {lo : Int}, TG lo t → 0 ≤ lo → ∀ x ∈ t, (1 ≤ x.upto ∧ x.upto ≤ 10000000) ∧ 1 ≤ x.price ∧ x.price ≤ 100000
  | [], _, _, _ => by simp
  | s :: t, lo, h, h0 => by
    obtain ⟨a, b, c, d, h'⟩ := h
    intro x hx
    rcases List.mem_cons.1 hx with rfl | hx
    · exact ⟨⟨by omega, b⟩, c, d⟩
    · exact TG.each h' (by omega) x hx
theorem TG.first : ∀ {t : List Stp} {lo : Int}, TG lo t → ∀ i (hi : i < t.length), lo < (t[i]'hi).upto
  | [], _, _, i, hi => by simp at hi
  | s :: t, lo, h, 0, hi => h.1
  | s :: t, lo, h, i + 1, hi => by
    have h1 := TG.first h.2.2.2.2 i (by simp at hi; omega)
    have h2 := h.1
    simp only [List.getElem_cons_succ]
    omega
theorem TG.rising : ∀ {t : List Stp} {lo : Int}, TG lo t → ∀ i (hi : i + 1 < t.length), (t[i]'(by omega)).upto < (t[i + 1]'hi).upto
  | [], _, _, i, hi => by simp at hi
  | s :: t, lo, h, 0, hi => by
    simp only [List.getElem_cons_zero, List.getElem_cons_succ]
    exact TG.first h.2.2.2.2 0 (by simp at hi; omega)
  | s :: t, lo, h, i + 1, hi => by
    simp only [List.getElem_cons_succ]
    exact TG.rising h.2.2.2.2 i (by simp at hi; omega)
theorem TG.last : ∀ {t : List Stp} {lo : Int}, TG lo t → (h : 0 < t.length) → (t[t.length - 1]'(by omega)).upto = 10000000
  | [], _, _, h => by simp at h
  | [s], lo, h, _ => by
    have := h.2.2.2.2
    unfold TG at this
    simpa using this
  | s :: r :: t, lo, h, _ => by
    have := TG.last h.2.2.2.2 (by simp)
    simpa using this
/-- The closure of Check: a step is not below the one ahead of it. -/
theorem less_no (ts : List Stp) (A : Option Addr) (q b i : Nat) (w : World) (hc : w.cell? ⟨b, 0, none⟩ = some (.slice A ts.length q)) (hr : RdE 2 Stp.enc w A ts) (hi : i + 1 < ts.length) (hlt : (ts[i]'(by omega)).upto < (ts[i + 1]'hi).upto) :
    Calls Try.prog 124 #[.int .i64 ((i : Int) + 1), .int .i64 (i : Int), .pointer (some ⟨b, 0, none⟩)] w fun e w' => e = .returned (.bool false) ∧ ∃ n, w' = w.drewN n := by
  have hmx := hr.1
  obtain ⟨ad, rfl, x0, x1⟩ := hr.at2 i (by omega) _ _ rfl
  obtain ⟨ad', hae, y0, y1⟩ := hr.at2 (i + 1) hi _ _ rfl
  cases hae
  generalize (ts[i]'(by omega)).upto = u at *
  generalize (ts[i + 1]'hi).upto = v at *
  have hi0 : (0 : Int) ≤ (i : Int) := by omega
  have hi1 : (i : Int) + 1 < (ts.length : Int) := by omega
  have hi2 : (i : Int) < (ts.length : Int) := by omega
  have hi3 : (0 : Int) ≤ (i : Int) + 1 := by omega
  have hi4 : i < ts.length := by omega
  have e1 : decide (v ≤ u) = false := decide_eq_false (by omega)
  clear x1 y1 hr
  go_enter Try.func124, Try.ntmps124
  go_wp2
  go_quiet (fail)
  go_wp2
  go_ret
  exact ⟨ret_bool (by simp [e1]), _, rfl⟩
theorem less_no2 (ts : List Stp) (A : Option Addr) (q b i : Nat) (ii jj : Int) (w : World) (hii : ii = (i : Int) + 1) (hjj : jj = (i : Int)) (hc : w.cell? ⟨b, 0, none⟩ = some (.slice A ts.length q)) (hr : RdE 2 Stp.enc w A ts) (hi : i + 1 < ts.length) (hlt : (ts[i]'(by omega)).upto < (ts[i + 1]'hi).upto) :
    Calls Try.prog 124 #[.int .i64 ii, .int .i64 jj, .pointer (some ⟨b, 0, none⟩)] w fun e w' => e = .returned (.bool false) ∧ ∃ n, w' = w.drewN n := by
  subst hii hjj
  exact less_no ts A q b i w hc hr hi hlt
theorem info_s0 : (Try.prog.info? 55).map (·.desc) = some (.slice 118) := by kernel_rfl
theorem info_ss : ∃ i : TypeInfo, Try.prog.info? 55 = some i ∧ i.desc = .slice 118 := Option.map_eq_some_iff.1 info_s0
set_option maxHeartbeats 2000000 in
theorem sorted_any (ts : List Stp) (A : Option Addr) (q b : Nat) (w : World) (hb : b < w.heap.size) (hc : w.cell? ⟨b, 0, none⟩ = some (.slice A ts.length q)) (hr : RdE 2 Stp.enc w A ts) (hg : ∀ i (hi : i + 1 < ts.length), (ts[i]'(by omega)).upto < (ts[i + 1]'hi).upto) (h1 : 1 ≤ ts.length) :
    Calls Try.prog 123 #[.iface 55 (.slice A ts.length q), .func (.func 124) #[] #[.pointer (some ⟨b, 0, none⟩)]] w fun e w' => e = .returned (.bool true) ∧ Below w.heap.size w w' := by
  obtain ⟨ti, hti, htd⟩ := info_ss
  have hmx := hr.1
  have hv := Lib.run_valueOf_slice (P := Try.prog) 55 118 ti hti htd A ts.length q w
  have hl := fun a w ha => Lib.run_valueLen_slice (P := Try.prog) 55 118 ti hti htd (by kernel_rfl) a A ts.length q w ha
  have HC := Lib.hid hc
  have HR := Lib.hid hr
  have HG := Lib.hid hg
  clear hc hr hg hti htd
  simp only [typeHandle] at hv hl
  first | rw [show Try.prog.globals.size = 0 from by decide +kernel] at hl | rw [show Try.prog.globals.size = 1 from by decide +kernel] at hl | rw [show Try.prog.globals.size = 2 from by decide +kernel] at hl | rw [show Try.prog.globals.size = 3 from by decide +kernel] at hl | rw [show Try.prog.globals.size = 4 from by decide +kernel] at hl | rw [show Try.prog.globals.size = 5 from by decide +kernel] at hl | rw [show Try.prog.globals.size = 6 from by decide +kernel] at hl | rw [show Try.prog.globals.size = 7 from by decide +kernel] at hl | rw [show Try.prog.globals.size = 8 from by decide +kernel] at hl | rw [show Try.prog.globals.size = 9 from by decide +kernel] at hl | rw [show Try.prog.globals.size = 10 from by decide +kernel] at hl | rw [show Try.prog.globals.size = 11 from by decide +kernel] at hl | rw [show Try.prog.globals.size = 12 from by decide +kernel] at hl | rw [show Try.prog.globals.size = 13 from by decide +kernel] at hl
  go_enter Try.func123, Try.ntmps123
  go_wp2
  rw [run_callFunc_extern Try.func127 (by kernel_rfl) (by kernel_rfl) (by kernel_rfl) (e := fun args => Extern.ReflectliteValue.unpack (args.getD 0 (.tuple #[]))) (by kernel_rfl),
    show Sem.run Try.prog ((fun args : Array Value => Extern.ReflectliteValue.unpack (args.getD 0 (.tuple #[]))) #[.iface 55 (.slice A ts.length q)]) w = _ from hv]
  simp only [Result.andThen]
  rw [Oper.upon_value]
  go_wp2
  rw [run_callFunc_extern Try.func128 (by kernel_rfl) (by kernel_rfl) (by kernel_rfl) (e := Extern.ReflectliteValue.method (Extern.ReflectliteValue.valueError "reflectlite.Value.Len" 0) Extern.ReflectliteValue.len) (by kernel_rfl)]
  first | rw [hl _ _ (by go_simp)] | rw [hl _ _ (by simp)] | (trace_state; fail)
  simp only [Result.andThen]
  rw [Oper.upon_value]
  clear hv hl
  go_wp2_with (fail)
  go_loopg [7] (ts.length - 1) (fun n i wr => i = .int .i64 (n : Int) ∧ n + 1 ≤ ts.length ∧ Below w.heap.size w wr)
  case atStart => exact ⟨by first | rfl | (rw [show ((ts.length - 1 : Nat) : Int) = (ts.length : Int) - 1 by omega]), by omega, blw_alloc (blw_alloc (Below.refl _ _) _) _⟩
  case round =>
    obtain ⟨rfl, hgk, hbl⟩ := hrel
    have HB := Lib.hid hbl
    clear hbl
    by_cases h0 : gk = 0
    · subst h0
      go_wp2
      go_ret
      exact ⟨rfl, HB.out⟩
    · obtain ⟨m, hm⟩ : ∃ m, gk = m + 1 := ⟨gk - 1, by omega⟩
      have hg0 : (0 : Int) < (gk : Int) := by omega
      have HM := Lib.hid hm
      have HK := Lib.hid (fun ii jj h1 h2 => less_no2 ts A q b m ii jj wr h1 h2 ((HB.out.cell (p := ⟨b, 0, none⟩) hb).trans HC.out) (HR.out.below HB.out) (by omega) (HG.out m (by omega)))
      clear hm h0
      go_wp2_with (fail)
      go_at_call 124
      refine (HK.out _ _ (by have := HM.out; omega) (by have := HM.out; omega)).mono ?_
      rintro e w2 ⟨rfl, n2, rfl⟩
      go_wp2_with (fail)
      go_roundg (gk - 1)
      case measure => omega
      case rel => exact ⟨by first | rfl | (rw [show ((gk - 1 : Nat) : Int) = (gk : Int) - 1 by omega]), by omega, blw_step HB.out _⟩
set_option maxHeartbeats 2000000 in
theorem check_any (ts : List Stp) (A : Option Addr) (q : Nat) (w : World) (hr : RdE 2 Stp.enc w A ts) (hT : TG 0 ts) (h1 : 1 ≤ ts.length) (h8 : ts.length ≤ 8) :
    Calls Try.prog 105 #[.slice A ts.length q] w fun e w' => e = .returned (.int .i64 0) ∧ Below w.heap.size w w' := by
  have hmx := hr.1
  obtain ⟨ad, rfl, _, _⟩ := hr.at2 0 (by omega) _ _ rfl
  have HR := Lib.hid hr
  have HT := Lib.hid hT
  have hl0 : ¬ ((ts.length : Int) < 1) := by omega
  have hl1 : ¬ (8 < (ts.length : Int)) := by omega
  have hl2 : (0 : Int) ≤ (ts.length : Int) - 1 := by omega
  have hl3 : (ts.length : Int) - 1 < (ts.length : Int) := by omega
  clear hr hT
  go_enter Try.func105, Try.ntmps105
  go_wp2
  go_loopg [16] ts.length (fun n v wr => ∃ i : Nat, n = ts.length - i ∧ i ≤ ts.length ∧ v = .int .i64 (i : Int) ∧ Below w.heap.size w wr ∧ Cs wr w.heap.size [.slice (some ad) ts.length q])
  case atStart => exact ⟨0, rfl, by omega, rfl, blw_alloc (Below.refl _ _) _, Cs.new rfl⟩
  case round =>
    obtain ⟨j, hgj, hj, rfl, hbl, hcs⟩ := hrel
    have HG := Lib.hid hgj
    clear hgj
    have HB := Lib.hid hbl
    have HC := Lib.hid hcs
    have hz := hcs.1
    have c0 := (hcs.at 0 rfl).1
    have f0 := (hcs.at 0 rfl).2
    have hz2 := hbl.size
    clear hbl hcs
    by_cases hlt : j < ts.length
    · obtain ⟨ad2, hae, x0, x1⟩ := (HR.out.below HB.out).at2 j hlt _ _ rfl
      cases hae
      obtain ⟨⟨a1, a2⟩, a3, a4⟩ := HT.out.each (by omega) _ (List.getElem_mem hlt)
      generalize (ts[j]'hlt).upto = u at *
      generalize (ts[j]'hlt).price = p at *
      have hg0 : (0 : Int) ≤ (j : Int) := by omega
      have hg1 : (j : Int) < (ts.length : Int) := by omega
      have b1 : ¬ (u < 1) := by omega
      have b2 : ¬ (10000000 < u) := by omega
      have b3 : ¬ (p < 1) := by omega
      have b4 : ¬ (100000 < p) := by omega
      clear a1 a2 a3 a4
      go_wp2_with (fail)
      go_roundg (ts.length - (j + 1))
      case measure => have := HG.out; omega
      case rel => exact ⟨j + 1, rfl, by omega, by go_num, blw_alloc HB.out _, HC.out.alloc _⟩
    · have hge : ¬ ((j : Int) < (ts.length : Int)) := by omega
      go_wp2_with (fail)
      go_at_call 123
      refine (sorted_any ts _ q _ _ hz c0 (HR.out.below HB.out) (fun i hi => HT.out.rising i hi) h1).mono ?_
      rintro e w2 ⟨rfl, hb⟩
      have hz3 := hb.size
      have c1 := (hb.cell (p := ⟨w.heap.size, 0, none⟩) (by first | exact hz | (simp; omega))).trans c0
      obtain ⟨ad2, hae, x0, x1⟩ := (HR.out.below (below_then' HB.out hb)).at2 (ts.length - 1) (by omega) _ _ rfl
      cases hae
      rw [HT.out.last (by omega)] at x0
      have hcl : ((ts.length - 1 : Nat) : Int) = (ts.length : Int) - 1 := by omega
      have hcn : ((ts.length : Int) - 1).toNat = ts.length - 1 := by omega
      have HB2 := Lib.hid (below_then' HB.out hb)
      clear hb
      go_wp2_with (fail)
      go_ret
      exact ⟨rfl, HB2.out⟩
end Go.Proofs.Ytfdgjaahmbjnpaa.Tar
