/- The walk of PadScripts. -/
import Derived.Test.YthalkihhkkgkiaaDoorPadU
import Derived.Test.YthalkihhkkgkiaaDoorWPadUndo
namespace Go.Proofs.YthalkihhkkgkiaaDoor.PadScripts
open Go Go.RowKit Go.Proofs.YthalkihhkkgkiaaDoor.Base Go.Proofs.YthalkihhkkgkiaaDoor.Pad Go.Proofs.YthalkihhkkgkiaaDoor.Num
set_option linter.unusedVariables false
set_option linter.unusedSimpArgs false
set_option maxRecDepth 20000
theorem info_i32 : (Tryd.prog.info? 21).map (fun i => (i.zero, i.size, i.bytes)) = some (some (.int .i32 0), 1, 4) := by kernel_rfl
theorem take_i32 (F : List Int) (j : Nat) (n : Int) (h : F[j]? = some n) : ((F.take (j + 1)).map fun n => Value.int .i32 n) = ((F.take j).map fun n => Value.int .i32 n) ++ [.int .i32 n] := by
  rw [List.take_add_one, h, List.map_append]
  rfl
theorem conv_own (F : List Int) (A : Option Addr) (q : Nat) (B : Nat) (W : World) (h0 : F ≠ []) (ho : W.ownsRow B 21 1 (.slice A F.length q) F.length (F.map fun n => Value.int .i32 n)) : (convert 34 9 (.slice A F.length q)).run Tryd.prog W = .ok (.string (runesBytes F)) W := by
  obtain ⟨g, rfl, _, _⟩ := own_addr ho (List.length_pos_iff.2 h0)
  have h := run_convert_runes (P := Tryd.prog) W 34 9 21 ⟨g, 0, none⟩ F.length q F (Nat.le_refl _) Tryd.underlying34 Tryd.underlying21 Tryd.underlying9 (fun j hj => by
    rw [add_plain, ho.cellAt j (by omega), List.getElem?_map, List.getElem?_eq_getElem hj]
    simp [List.getD, List.getElem?_eq_getElem hj])
  rwa [List.take_length] at h
set_option maxHeartbeats 8000000 in
theorem walk (raw : List UInt8) (A : Option Addr) (c : Nat) (sc : List Int) (SA : Option Addr) (scap : Nat) (w : World) (hr : RdE 1 encB w A raw) (hs : RdE 1 encI w SA sc) (hsc : ∀ x ∈ sc, (Lit.int .i64 x).wf = true) :
    Calls Tryd.prog 4 #[.slice A raw.length c, .slice SA sc.length scap] w fun e w' => e = .returned (.bool true) ∧ Below w.heap.size w w' := by
  obtain ⟨d, hdn, hln, hdg⟩ := PadUndo.num_list raw 30 (by decide)
  have hpos : d ≠ [] := by
    intro e
    have h1 := congrArg ByteArray.size hdn
    rw [e, strOf_size] at h1
    unfold numerals at h1
    split at h1
    · exact absurd h1 (by decide)
    · rename_i h2
      rw [strOf_size] at h1
      exact h2 (List.eq_nil_of_length_eq_zero h1.symm)
  have HN := Lib.hid (fun W (h : RdE 1 encB W A raw) => numerals_at raw 30 30 A c W h rfl (by decide) (by decide))
  rw [← hdn] at HN
  have HR := Lib.hid hr
  have HSC := Lib.hid hs
  have HSB := Lib.hid (fun x hx => i64_bound (hsc x hx))
  have hk := script_keys d sc hdg hpos hln
  have hX := runesBytes_end (zl d sc)
  have hzl := zl_len d sc
  have hbs := runesBytes_size_le (zl d sc)
  have hbs2 := runesBytes_size_le (zl d sc ++ [35])
  rw [List.length_append, hzl] at hbs2
  rw [hzl] at hbs
  simp only [List.length_cons, List.length_nil, Nat.zero_add] at hbs2
  have HK := Lib.hid (fun W => keys_any (runesBytes (zl d sc ++ [35])) (by omega) W)
  rw [hk] at HK
  simp only [List.length_cons, List.length_nil, Nat.zero_add] at HK
  unfold Pd.vals at HK
  rw [show strOf [] = (⟨#[]⟩ : ByteArray) from rfl] at HK
  have hen : ∀ W B (A1 : Option Addr) q, OwEn B W A1 q [⟨d, 0⟩] → ∃ g, A1 = some ⟨g, 0, none⟩ ∧ W.cell? ⟨g, 0, none⟩ = some (.string (strOf d)) ∧ W.cell? ⟨g, 1, none⟩ = some (.int .i64 0) := by
    intro W B A1 q h
    obtain ⟨g, hg, _, _⟩ := own_addr h (by simp)
    subst hg
    refine ⟨g, rfl, ?_, ?_⟩
    · exact h.cellAt 0 (by simp)
    · exact h.cellAt 1 (by simp)
  have HEN := Lib.hid hen
  have hS : ∀ j (hj : j < (strOf d).size), ∃ cc, d[j]? = some cc ∧ (strOf d)[j]'hj = cc ∧ 48 ≤ cc.toNat ∧ cc.toNat ≤ 57 := by
    intro j hj
    have h3 := bytes_at (strOf d) j hj
    rw [strOf_data] at h3
    have h4 := hdg _ (List.mem_of_getElem? h3)
    unfold isDg at h4
    exact ⟨_, h3, rfl, by simpa using h4⟩
  have HS := Lib.hid hS
  have hZ : ∀ (j : Nat) (cc : UInt8), d[j]? = some cc → (zl d sc)[j]? = some ((match sc[j]? with | some n => scriptI n | none => 48) + ((cc.toNat : Int) - 48)) := zl_at d sc
  have HZ := Lib.hid hZ
  have hsz := strOf_size d
  have hFn : zl d sc ≠ [] := by
    intro e
    rw [e] at hzl
    exact hpos (List.eq_nil_of_length_eq_zero hzl.symm)
  have HCV := Lib.hid (fun A q B W ho => conv_own (zl d sc) A q B W hFn ho)
  rw [hzl] at HCV
  generalize hF : zl d sc = F at *
  have hc1 : ¬ 9223372036854775807 < (runesBytes F).size + 1 := by omega
  have HSZ := Lib.hid (show (strOf d).size = d.length from hsz)
  have HZL := Lib.hid hzl
  clear hF hen hS hZ hk hbs hbs2 hdn hdg hpos hr hs hsc hFn hzl
  generalize runesBytes (F ++ [35]) = X at *
  generalize runesBytes F = Y at *
  generalize hSS : strOf d = S at *
  clear hSS hsz
  have hn30 : d.length ≤ 30 := hln
  clear hln
  generalize d.length = n at *
  generalize raw.length = rl at *
  have hsl := HSC.out.1
  have hSn : ((S.size : Nat) : Int) = (n : Int) := by rw [HSZ.out]
  go_enter Tryd.func4, Tryd.ntmps4
  go_wp2_with (fail)
  go_at_call 7
  refine (HN.out _ HR.out).mono ?_
  rintro e w1 ⟨rfl, hb⟩
  have hwz1 := hb.size
  try simp at hwz1
  have HBw1 : Hid (Below w.heap.size w w1) := Lib.hid (below_then' (by repeat (first | with_reducible exact Below.refl _ _ | with_reducible refine blw_alloc ?_ _ | with_reducible refine Below.drew ?_ | with_reducible refine blw_step ?_ _ | with_reducible refine Below.setCell (p := ⟨_, _, none⟩) ?_ (by first | exact Nat.le_refl _ | (simp; done) | (simp; omega) | omega) _)) hb)
  clear hb
  go_wp2_with fail
  go_loopw [6, 7] (fun v i wr => ∃ j : Nat, j ≤ n ∧ i = .int .i64 j ∧ wr.ownsRow w1.heap.size 21 1 v j ((F.take j).map fun n => Value.int .i32 n) ∧ Below w1.heap.size w1 wr) (fun _ i _ => n - (intOf i).toNat)
  case atStart => exact ⟨0, by omega, rfl, World.ownsRow_nil _ _ _ _, Below.refl _ _⟩
  case round =>
    obtain ⟨j, hj, rfl, ho, hb⟩ := hrel
    have HO := Lib.hid ho
    have HBr := Lib.hid hb
    clear ho hb
    by_cases hlt : j < n
    · have hjs : j < S.size := by rw [HSZ.out]; exact hlt
      obtain ⟨cc, hdc, hcc, c48, c57⟩ := HS.out j hjs
      have hz := HZ.out j cc hdc
      have hju : ((S[j]'hjs).toNat : Int) = (cc.toNat : Int) := by rw [hcc]
      have hw8 : IntKind.u8.wrap ((cc.toNat : Int) - 48) = (cc.toNat : Int) - 48 := by rw [IntKind.wrap_u8]; omega
      clear hdc hcc
      have hlen4 : (j + 1) * 4 ≤ 140737488355328 := by omega
      by_cases hsj : j < sc.length
      · obtain ⟨sn, hsn⟩ : ∃ x, sc[j]? = some x := ⟨sc[j], List.getElem?_eq_getElem hsj⟩
        obtain ⟨s0, s1⟩ := HSB.out sn (List.mem_of_getElem? hsn)
        obtain ⟨ad, rfl, hcell⟩ := (HSC.out.below (HBw1.out.trans (HBr.out.mono HBw1.out.size))).at1 j hsj (.int .i64 sn) (by rw [List.getElem?_eq_getElem hsj] at hsn; simp at hsn; rw [hsn]; rfl)
        have HSCR := Lib.hid (fun W => script_any sn W s0 s1)
        have hzn := script_zone sn
        rw [hsn] at hz
        simp only at hz
        unfold zone at hzn
        generalize scriptI sn = z at *
        have hw32 : IntKind.i32.wrap (z + ((cc.toNat : Int) - 48)) = z + ((cc.toNat : Int) - 48) := by rw [IntKind.wrap_i32]; omega
        have hw32' : RowKit.wrap32 (z + ((cc.toNat : Int) - 48)) = z + ((cc.toNat : Int) - 48) := by unfold RowKit.wrap32; omega
        have HZZ := Lib.hid hz
        clear hz hsn hzn
        go_wp2_with (first | (go_at_call 9; refine (HSCR.out _).mono ?_; rintro e w' ⟨rfl, rfl⟩) | (at_builtin; refine app1 (w0 := w1) w1.heap.size rfl (.tmp 29) (.tmp 37) 34 21 (.int .i32 0) 1 4 rfl Tryd.underlying34 info_i32 rfl (by decide) (by decide) _ _ _ [.int .i32 (z + ((cc.toNat : Int) - 48))] rfl rfl rfl ?c1 HO.out HBr.out HBr.out.size hlen4 ?_; (case c1 => intro u hu; simp at hu; subst hu; rfl); intro v1 w2 ho2 hb2 _ _; have HO2 := Lib.hid ho2; have HB2 := Lib.hid hb2; clear ho2 hb2))
        go_roundw
        case rel =>
          refine ⟨j + 1, by omega, by go_num, ?_, HB2.out⟩
          rw [take_i32 F j _ HZZ.out]
          exact HO2.out
        case measure => simp [intOf]; omega
      · have hz2 : sc[j]? = none := List.getElem?_eq_none (by omega)
        rw [hz2] at hz
        simp only at hz
        clear hz2
        have hsji : ¬ (j : Int) < (sc.length : Int) := by omega
        have hw32 : IntKind.i32.wrap (48 + ((cc.toNat : Int) - 48)) = 48 + ((cc.toNat : Int) - 48) := by rw [IntKind.wrap_i32]; omega
        have hw32' : RowKit.wrap32 (48 + ((cc.toNat : Int) - 48)) = 48 + ((cc.toNat : Int) - 48) := by unfold RowKit.wrap32; omega
        have HZZ := Lib.hid hz
        clear hz
        go_wp2_with ((at_builtin; refine app1 (w0 := w1) w1.heap.size rfl (.tmp 29) (.tmp 37) 34 21 (.int .i32 0) 1 4 rfl Tryd.underlying34 info_i32 rfl (by decide) (by decide) _ _ _ [.int .i32 (48 + ((cc.toNat : Int) - 48))] rfl rfl rfl ?c1 HO.out HBr.out HBr.out.size hlen4 ?_; (case c1 => intro u hu; simp at hu; subst hu; rfl); intro v1 w2 ho2 hb2 _ _; have HO2 := Lib.hid ho2; have HB2 := Lib.hid hb2; clear ho2 hb2))
        go_roundw
        case rel =>
          refine ⟨j + 1, by omega, by go_num, ?_, HB2.out⟩
          rw [take_i32 F j _ HZZ.out]
          exact HO2.out
        case measure => simp [intOf]; omega
    · obtain rfl : j = n := by omega
      have hO := HO.out
      rw [List.take_of_length_le (by rw [HZL.out]; exact Nat.le_refl _)] at hO
      obtain ⟨A2, q2, rfl⟩ : ∃ A q, u6 = .slice A j q := by
        rcases hO.2 with ⟨h1, h2⟩ | ⟨g, cap, cur, h1, _⟩
        · exact ⟨none, 0, by rw [h1, ← h2]⟩
        · exact ⟨_, _, h1⟩
      have hcv := HCV.out A2 q2 _ _ hO
      clear hO
      go_wp2_with (fail)
      go_at_call 8
      refine (HK.out _).mono ?_
      rintro e w2 ⟨⟨A1, q, rfl, ho⟩, _, hb⟩
      obtain ⟨g, rfl, e0, e1⟩ := HEN.out _ _ _ _ ho
      have HB2 : Hid (Below w.heap.size w w2) := Lib.hid (below_then' (HBw1.out.trans (HBr.out.mono HBw1.out.size)) hb)
      have lg := World.block_lt_of_cell? w2 _ e0
      clear ho hb hcv
      go_wp2_with fail
      go_ret
      exact ⟨rfl, blw_alloc HB2.out _⟩
end Go.Proofs.YthalkihhkkgkiaaDoor.PadScripts
