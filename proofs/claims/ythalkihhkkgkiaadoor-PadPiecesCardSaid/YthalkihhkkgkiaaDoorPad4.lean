/- Contracts: keypad.Press in general; the laws' character, characters, sameEntries. -/
import Derived.Test.YthalkihhkkgkiaaDoorPadU
import Derived.Laws.StructEq
namespace Go.Proofs.YthalkihhkkgkiaaDoor.Pad
open Go Go.RowKit Go.Proofs.YthalkihhkkgkiaaDoor.Base
set_option linter.unusedVariables false
set_option linter.unusedSimpArgs false
set_option maxRecDepth 20000
def ents (o : Option En) : List En := match o with | none => [] | some e => [e]
theorem Press_some (p : Pd) (r : Int) (x : En) (w : World) (hp : p.ok) (r0 : -2147483648 ≤ r) (r1 : r ≤ 2147483647) (hn : (pressP p r).2 = some x) : Calls Tryd.prog 10 #[.agg p.vals, .int .i32 r] w fun e w' => (∃ g, e = .returned (.tuple #[.agg (pressP p r).1.vals, .slice (some ⟨g, 0, none⟩) 1 1, .int .i64 0]) ∧ Cs w' g x.enc ∧ w.heap.size ≤ g) ∧ Below w.heap.size w w' := by
  have HM := Lib.hid (fun W => may_yes p hp W)
  have HP := Lib.hid (fun W => press_any p r W hp r0 r1)
  simp only [hn] at HP
  generalize (pressP p r).1 = q at *
  clear hn hp
  obtain ⟨d, b⟩ := p
  obtain ⟨d2, b2⟩ := q
  obtain ⟨xt, xc⟩ := x
  unfold Pd.vals at HM HP ⊢
  unfold En.enc at HP ⊢
  simp only at HM HP ⊢
  generalize strOf d = s at *
  generalize strOf d2 = s2 at *
  generalize strOf xt = st at *
  go_enter Tryd.func10, Tryd.ntmps10
  go_wp2_with (fail)
  go_at_call 15
  refine (HM.out _).mono ?_
  rintro e w1 ⟨rfl, hb⟩
  have hwz1 := hb.size
  try simp at hwz1
  have HBw1 : Hid (Below w.heap.size w w1) := Lib.hid (below_then' (by repeat (first | with_reducible exact Below.refl _ _ | with_reducible refine blw_alloc ?_ _ | with_reducible refine Below.drew ?_ | with_reducible refine blw_step ?_ _ | with_reducible refine Below.setCell (p := ⟨_, _, none⟩) ?_ (by first | exact Nat.le_refl _ | (simp; done) | (simp; omega) | omega) _)) hb)
  have Cpw1 : Hid (Cs w1 (w.heap.size) [.string s, .bool b]) := Lib.hid ((show Cs _ (w.heap.size) [.string s, .bool b] from (by (repeat (first | (with_reducible refine Cs.new ?_; focus (first | rfl | (simp; done) | omega)) | with_reducible refine Cs.alloc ?_ _ | with_reducible refine Cs.drew ?_ | with_reducible refine Cs.drewN ?_ _ | (with_reducible refine Cs.other ?_ ?_ _; focus (first | omega | (simp; omega))) | with_reducible apply Cs.put)) <;> first | rfl | (simp; done))).after hb)
  have Crw1 : Hid (Cs w1 (w.heap.size + 1) [.string ⟨#[]⟩, .bool false]) := Lib.hid ((show Cs _ (w.heap.size + 1) [.string ⟨#[]⟩, .bool false] from (by (repeat (first | (with_reducible refine Cs.new ?_; focus (first | rfl | (simp; done) | omega)) | with_reducible refine Cs.alloc ?_ _ | with_reducible refine Cs.drew ?_ | with_reducible refine Cs.drewN ?_ _ | (with_reducible refine Cs.other ?_ ?_ _; focus (first | omega | (simp; omega))) | with_reducible apply Cs.put)) <;> first | rfl | (simp; done))).after hb)
  clear hb
  have lpw1 := Cpw1.out.1
  have pw1g0 := (Cpw1.out.at 0 rfl).1
  have pw1g1 := (Cpw1.out.at 1 rfl).1
  have lrw1 := Crw1.out.1
  go_wp2_with (fail)
  go_at_call 14
  refine (HP.out _).mono ?_
  rintro e w2 ⟨⟨qb, rfl, hqb, hcx⟩, hb⟩
  have hwz2 := hb.size
  try simp at hwz2
  have HBw2 : Hid (Below w.heap.size w w2) := Lib.hid (below_then' (by repeat (first | with_reducible exact HBw1.out | with_reducible refine blw_alloc ?_ _ | with_reducible refine Below.drew ?_ | with_reducible refine blw_step ?_ _ | with_reducible refine Below.setCell (p := ⟨_, _, none⟩) ?_ (by first | exact Nat.le_refl _ | (simp; done) | (simp; omega) | omega) _)) hb)
  have Crw2 : Hid (Cs w2 (w.heap.size + 1) [.string ⟨#[]⟩, .bool false]) := Lib.hid ((show Cs _ (w.heap.size + 1) [.string ⟨#[]⟩, .bool false] from (by (repeat (first | with_reducible exact Crw1.out | (with_reducible refine Cs.new ?_; focus (first | rfl | (simp; done) | omega)) | with_reducible refine Cs.alloc ?_ _ | with_reducible refine Cs.drew ?_ | with_reducible refine Cs.drewN ?_ _ | (with_reducible refine Cs.other ?_ ?_ _; focus (first | omega | (simp; omega))) | with_reducible apply Cs.put)) <;> first | rfl | (simp; done))).after hb)
  have Cxw2 := Lib.hid hcx
  clear hcx
  clear pw1g0 pw1g1 hb
  have lrw2 := Crw2.out.1
  have rw2g0 := (Crw2.out.at 0 rfl).1
  have rw2f0 := (Crw2.out.at 0 rfl).2
  have rw2g1 := (Crw2.out.at 1 rfl).1
  have rw2f1 := (Crw2.out.at 1 rfl).2
  go_upto_region 4 with fail
  obtain ⟨u, hu⟩ : ∃ u, u = w2.alloc (.cells #[.string s2, .bool b2] 26) := ⟨_, rfl⟩
  have Cru : Hid (Cs u (w.heap.size + 1) [.string ⟨#[]⟩, .bool false]) := Lib.hid (by rw [hu]; exact Cs.alloc Crw2.out _)
  have Cxu : Hid (Cs u qb [.string st, .int .i64 xc]) := Lib.hid (by rw [hu]; exact Cs.alloc Cxw2.out _)
  have Cqu : Hid (Cs u (w2.heap.size) [.string s2, .bool b2]) := Lib.hid (by rw [hu]; exact Cs.new rfl)
  have HBu : Hid (Below w.heap.size w u) := Lib.hid (by rw [hu]; exact blw_alloc HBw2.out _)
  rw [← hu]
  clear hu rw2g0 rw2f0 rw2g1 rw2f1
  have lru := Cru.out.1
  have rug0 := (Cru.out.at 0 rfl).1
  have ruf0 := (Cru.out.at 0 rfl).2
  have rug1 := (Cru.out.at 1 rfl).1
  have ruf1 := (Cru.out.at 1 rfl).2
  have lqu := Cqu.out.1
  have qug0 := (Cqu.out.at 0 rfl).1
  have qug1 := (Cqu.out.at 1 rfl).1
  have lxu := Cxu.out.1
  have xug0 := (Cxu.out.at 0 rfl).1
  have xug1 := (Cxu.out.at 1 rfl).1
  have nr : w.heap.size + 1 ≠ u.heap.size := by omega
  go_wp2_with fail
  go_region
  go_wp2_with fail
  obtain ⟨V, hV⟩ : ∃ V, V = (((u.setCell ⟨w.heap.size + 1, 0, none⟩ (.string s2)).setCell ⟨w.heap.size + 1, 1, none⟩ (.bool b2)).alloc (.cells #[.string st, .int .i64 xc] 31)).drew := ⟨_, rfl⟩
  have CFr : Hid (Cs V (w.heap.size + 1) [.string s2, .bool b2]) := Lib.hid (by rw [hV]; exact (Cs.alloc (Cs.put (i := 1) (Cs.put (i := 0) Cru.out (by simp) rfl) (by simp) rfl) _).drew)
  have CFx : Hid (Cs V (u.heap.size) [.string st, .int .i64 xc]) := Lib.hid (by rw [hV]; exact (Cs.new (by simp)).drew)
  have HBV : Hid (Below w.heap.size w V) := Lib.hid (by rw [hV]; exact (blw_alloc ((HBu.out.setCell (p := ⟨w.heap.size + 1, 0, none⟩) (by simp) _).setCell (p := ⟨w.heap.size + 1, 1, none⟩) (by simp) _) _).drew)
  rw [← hV]
  clear hV
  have z0 := (CFr.out.at 0 rfl).1
  have z1 := (CFr.out.at 1 rfl).1
  refine bodyPost_ret (v := .tuple #[.agg #[.string s2, .bool b2], .slice (some ⟨u.heap.size, 0, none⟩) 1 1, .int .i64 0]) (by simp [results, Tryd.results10, go_sem, z0, z1]) rfl ⟨⟨_, rfl, CFx.out, HBu.out.size⟩, HBV.out⟩
/-- Press: what entries come of it. -/
theorem Press_any (p : Pd) (r : Int) (w : World) (hp : p.ok) (r0 : -2147483648 ≤ r) (r1 : r ≤ 2147483647) : Calls Tryd.prog 10 #[.agg p.vals, .int .i32 r] w fun e w' => (∃ A c, e = .returned (.tuple #[.agg (pressP p r).1.vals, .slice A (ents (pressP p r).2).length c, .int .i64 0]) ∧ RdE 2 En.enc w' A (ents (pressP p r).2) ∧ (A = none → ents (pressP p r).2 = [] ∧ c = 0) ∧ ∀ a, A = some a → w.heap.size ≤ a.block) ∧ Below w.heap.size w w' := by
  cases h : (pressP p r).2 with
  | none => exact (Press_none p r w hp r0 r1 h).mono fun e w' ⟨h1, h2⟩ => ⟨⟨none, 0, h1, RdE.nil, (fun _ => ⟨rfl, rfl⟩), fun a h => by cases h⟩, h2⟩
  | some x =>
    refine (Press_some p r x w hp r0 r1 h).mono fun e w' ⟨⟨g, h1, h3, h4⟩, h2⟩ => ⟨⟨some ⟨g, 0, none⟩, 1, h1, ⟨by simp [ents], fun _ => ⟨_, rfl, ?_⟩⟩, (fun h => by cases h), fun a h => by cases h; exact h4⟩, h2⟩
    intro i y hy j u hu
    have hi : i = 0 := by have := (List.getElem?_eq_some_iff.1 hy).1; simpa [ents] using this
    subst hi
    simp [ents] at hy
    subst hy
    rw [add_plain]
    simpa using (h3.at j hu).1
def chI (n : Int) : Int := if 55296 ≤ pk n 1114112 ∧ pk n 1114112 < 57344 then 35 else pk n 1114112
theorem chI_valid (n : Int) : Utf8.valid (chI n) = true ∧ 0 ≤ chI n ∧ chI n ≤ 1114111 := by
  obtain ⟨b0, b1⟩ := pk_bound n 1114112 (by decide)
  unfold chI Utf8.valid
  generalize pk n 1114112 = k at *
  split <;> (refine ⟨by simp; try omega, by omega, by omega⟩)
theorem character_any (n : Int) (w : World) (h0 : -9223372036854775808 ≤ n) (h1 : n ≤ 9223372036854775807) : Calls Tryd.prog 16 #[.int .i64 n] w fun e w' => e = .returned (.int .i32 (chI n)) ∧ w = w' := by
  have HP := Lib.hid (fun W => picked_any n 1114112 W h0 h1 (by omega))
  obtain ⟨b0, b1⟩ := pk_bound n 1114112 (by decide)
  obtain ⟨v, hv⟩ : ∃ v, v = chI n := ⟨_, rfl⟩
  rw [← hv]
  unfold chI at hv
  generalize pk n 1114112 = k at *
  have hw : RowKit.wrap32 k = k := by unfold RowKit.wrap32; omega
  have hw2 : IntKind.i32.wrap k = k := by rw [IntKind.wrap_i32]; omega
  have HV := Lib.hid hv
  clear hv
  go_enter Tryd.func16, Tryd.ntmps16
  go_wp2_with fail
  go_at_call 11
  refine (HP.out _).mono ?_
  rintro e w1 ⟨rfl, rfl⟩
  go_wp2_with fail
  all_goals
    go_ret
    refine ⟨ret_int ?_, rfl⟩
    have hv := HV.out
    first | (rw [if_pos (by omega)] at hv; omega) | (rw [if_neg (by omega)] at hv; omega)
theorem info_i32b : (Tryd.prog.info? 21).map (fun i => (i.zero, i.size, i.bytes)) = some (some (.int .i32 0), 1, 4) := by kernel_rfl
def chL (l : List Int) : List Int := (l.take 200).map chI
def OwC (B : Nat) (w : World) (A : Option Addr) (q : Nat) (xs : List Int) : Prop := w.ownsRow B 21 1 (.slice A xs.length q) xs.length (xs.map fun n => Value.int .i32 n)
set_option maxHeartbeats 2000000 in
theorem characters_any (l : List Int) (A : Option Addr) (c : Nat) (w : World) (hr : RdE 1 encI w A l) (hk : ∀ x ∈ l, (Lit.int .i64 x).wf = true) :
    Calls Tryd.prog 12 #[.slice A l.length c, .int .i64 200] w fun e w' => (∃ B q, e = .returned (.slice B (chL l).length q) ∧ OwC w.heap.size w' B q (chL l)) ∧ Below w.heap.size w w' := by
  have HR := Lib.hid hr
  have HK := Lib.hid (fun x hx => i64_bound (hk x hx))
  have hmx := hr.1
  have hln : (chL l).length = min 200 l.length := by unfold chL; simp
  have hat : ∀ j n, j < 200 → l[j]? = some n → (chL l)[j]? = some (chI n) := by
    intro j n hj hn
    unfold chL
    rw [List.getElem?_map, List.getElem?_take, if_pos hj, hn]
    rfl
  have HAT := Lib.hid hat
  have HLN := Lib.hid hln
  clear hr hk hat hln
  generalize chL l = F at *
  go_enter Tryd.func12, Tryd.ntmps12
  go_wp2_with fail
  go_loopw [5, 6] (fun v i wr => ∃ j : Nat, j ≤ l.length ∧ j ≤ 200 ∧ i = .int .i64 j ∧ wr.ownsRow w.heap.size 21 1 v j ((F.take j).map fun n => Value.int .i32 n) ∧ Below w.heap.size w wr) (fun _ i _ => l.length - (intOf i).toNat)
  case atStart => exact ⟨0, by omega, by omega, rfl, World.ownsRow_nil _ _ _ _, Below.refl _ _⟩
  case round =>
    obtain ⟨j, hj, hj2, rfl, ho, hb⟩ := hrel
    have HO := Lib.hid ho
    have HBr := Lib.hid hb
    clear ho hb
    by_cases hlt : j < l.length ∧ j < 200
    · obtain ⟨h1, h2⟩ := hlt
      obtain ⟨n, hn⟩ : ∃ x, l[j]? = some x := ⟨l[j], List.getElem?_eq_getElem h1⟩
      obtain ⟨s0, s1⟩ := HK.out n (List.mem_of_getElem? hn)
      obtain ⟨ad, rfl, hcell⟩ := (HR.out.below HBr.out).at1 j h1 (.int .i64 n) (by rw [List.getElem?_eq_getElem h1] at hn; simp at hn; rw [hn]; rfl)
      have HCH := Lib.hid (fun W => character_any n W s0 s1)
      have hz := HAT.out j n h2 hn
      generalize chI n = z at *
      have HZZ := Lib.hid hz
      have hlen4 : (j + 1) * 4 ≤ 140737488355328 := by omega
      clear hz hn
      go_wp2_with (first | (go_at_call 16; refine (HCH.out _).mono ?_; rintro e w' ⟨rfl, rfl⟩) | (at_builtin; refine app1 (w0 := w) w.heap.size rfl (.tmp 24) (.tmp 26) 34 21 (.int .i32 0) 1 4 rfl Tryd.underlying34 info_i32b rfl (by decide) (by decide) _ _ _ [.int .i32 z] rfl rfl rfl ?c1 HO.out HBr.out HBr.out.size hlen4 ?_; (case c1 => intro u hu; simp at hu; subst hu; rfl); intro v1 w2 ho2 hb2 _ _; have HO2 := Lib.hid ho2; have HB2 := Lib.hid hb2; clear ho2 hb2))
      go_roundw
      case rel =>
        refine ⟨j + 1, by omega, by omega, by go_num, ?_, HB2.out⟩
        rw [List.take_add_one, HZZ.out, List.map_append]
        exact HO2.out
      case measure => simp [intOf]; omega
    · have hjl : j = F.length := by rw [HLN.out]; omega
      have hO := HO.out
      rw [List.take_of_length_le (by omega)] at hO
      obtain ⟨A2, q2, rfl⟩ : ∃ A q, u5 = .slice A j q := by
        rcases hO.2 with ⟨h1, h2⟩ | ⟨g, cap, cur, h1, _⟩
        · exact ⟨none, 0, by rw [h1, ← h2]⟩
        · exact ⟨_, _, h1⟩
      have HF := Lib.hid hO
      have HJ := Lib.hid hjl
      clear hO hjl
      by_cases hl2 : j < l.length
      all_goals
        go_wp2_with fail
        go_ret
        refine ⟨⟨A2, q2, by rw [← HJ.out]; rfl, ?_⟩, HBr.out⟩
        unfold OwC
        rw [← HJ.out]
        exact HF.out
end Go.Proofs.YthalkihhkkgkiaaDoor.Pad
