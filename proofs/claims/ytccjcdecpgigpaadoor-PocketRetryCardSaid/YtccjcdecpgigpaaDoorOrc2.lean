/- Contracts of oracle.May, Verify, Issue. -/
import Derived.Test.YtccjcdecpgigpaaDoorOrc
import Derived.Lib.LazyBuf
import Derived.OneCell
namespace Go.Proofs.YtccjcdecpgigpaaDoor.Orc
open Go.RowKit Go.Proofs.YtccjcdecpgigpaaDoor.Base Go.Maps
set_option linter.unusedVariables false
set_option linter.unusedSimpArgs false
set_option maxRecDepth 20000
def OwPr (base : Nat) (w : World) (A : Option Addr) (c : Nat) (xs : List Pr) : Prop := w.ownsRow base 211 4 (.slice A xs.length c) xs.length (xs.flatMap Pr.enc)
theorem OwPr.read {base : Nat} {w : World} {A : Option Addr} {c : Nat} {xs : List Pr} (h : OwPr base w A c xs) : RdE 4 Pr.enc w A xs := by
  obtain ⟨A1, c1, he, hr⟩ := own_read (enc := Pr.enc) (fun _ => rfl) (by decide) h
  cases he
  exact hr
theorem OwPr.of {base : Nat} {w : World} {v : Value} {n : Nat} {cs : List Value} {xs : List Pr} (h : w.ownsRow base 211 4 v n cs) (hn : n = xs.length) (hc : cs = xs.flatMap Pr.enc) : ∃ A c, v = .slice A xs.length c ∧ OwPr base w A c xs := by
  subst hn hc
  obtain ⟨A, c, rfl, _⟩ := own_read (enc := Pr.enc) (fun _ => rfl) (by decide) h
  exact ⟨A, c, rfl, h⟩
theorem own_after {B : Nat} {e : TypeId} {k : Nat} {v : Value} {n : Nat} {xs : List Value} {w w' : World} (h : w.ownsRow B e k v n xs) (hb : Below w.heap.size w w') : w'.ownsRow B e k v n xs :=
  h.kept (row := none) ⟨hb.os, hb.tape, hb.output, hb.size, fun j hj _ => hb.block j hj⟩ (by cases hv : v.ownBlock <;> simp)
theorem own_ne {B : Nat} {e : TypeId} {k : Nat} {v : Value} {n : Nat} {xs : List Value} {w : World} (h : w.ownsRow B e k v n xs) {g : Nat} (hg : w.heap.size ≤ g) : some g ≠ v.ownBlock := by
  intro e
  have := (h.lt g e.symm).2
  omega
theorem grown_cell {w w' : World} {row : Option Nat} (h : w.grownBy w' row) {g : Nat} (hg : g < w.heap.size) (hn : some g ≠ row) (o : Nat) : w'.cell? ⟨g, o, none⟩ = w.cell? ⟨g, o, none⟩ := World.cell?_of_block (h.block g hg hn)
theorem grown_frozen {w w' : World} {row : Option Nat} (h : w.grownBy w' row) {g : Nat} (hg : g < w.heap.size) (hn : some g ≠ row) (o : Nat) : w'.frozen? ⟨g, o, none⟩ = w.frozen? ⟨g, o, none⟩ := World.frozen?_of_block (h.block g hg hn)
theorem own_mono {B B' : Nat} {e : TypeId} {k : Nat} {v : Value} {n : Nat} {xs : List Value} {w : World} (h : w.ownsRow B e k v n xs) (hb : B' ≤ B) : w.ownsRow B' e k v n xs :=
  ⟨h.1, h.2.imp (fun x => x) (fun ⟨g, cap, cur, h1, h2, h3⟩ => ⟨g, cap, cur, h1, Nat.le_trans hb h2, h3⟩)⟩
theorem may_yes (ps : List Pr) (A : Option Addr) (c : Nat) (w : World) (hr : RdE 4 Pr.enc w A ps) (hk : ∀ p ∈ ps, p.ok) (hg : Good ps) :
    Calls Tryd.prog 75 #[.agg #[.slice A ps.length c]] w fun e w' => e = .returned (.bool true) ∧ Below w.heap.size w w' := by
  have HR := Lib.hid hr
  have HK := Lib.hid hk
  have HG := Lib.hid hg
  clear hr hk hg
  go_enter Tryd.func75, Tryd.ntmps75
  go_wp2_with (fail)
  go_at_call 110
  refine (known_any ps A c _ (HR.out.below (blw_alloc (Below.refl _ _) _)) HK.out).mono ?_
  rintro e w1 ⟨hb, ⟨_, B, rfl, _⟩ | ⟨hn, _⟩⟩
  · have HB := Lib.hid (below_then' (blw_alloc (Below.refl _ _) _) hb)
    clear hb
    go_wp2_with (fail)
    go_ret
    exact ⟨rfl, HB.out⟩
  · exact absurd HG.out hn
theorem may_no (ps : List Pr) (A : Option Addr) (c : Nat) (w : World) (hr : RdE 4 Pr.enc w A ps) (hk : ∀ p ∈ ps, p.ok) (hg : ¬ Good ps) :
    Calls Tryd.prog 75 #[.agg #[.slice A ps.length c]] w fun e w' => e = .returned (.bool false) ∧ Below w.heap.size w w' := by
  have HR := Lib.hid hr
  have HK := Lib.hid hk
  have HG := Lib.hid hg
  clear hr hk hg
  go_enter Tryd.func75, Tryd.ntmps75
  go_wp2_with (fail)
  go_at_call 110
  refine (known_any ps A c _ (HR.out.below (blw_alloc (Below.refl _ _) _)) HK.out).mono ?_
  rintro e w1 ⟨hb, ⟨hg, _⟩ | ⟨_, rfl⟩⟩
  · exact absurd hg HG.out
  · have HB := Lib.hid (below_then' (blw_alloc (Below.refl _ _) _) hb)
    clear hb
    go_wp2_with (fail)
    go_ret
    exact ⟨rfl, HB.out⟩
def verB (ps : List Pr) (m r b t : Int) : Bool := had ps m r b && (tagL ps m r b == t)
theorem verify_yes (ps : List Pr) (m r b t : Int) (A : Option Addr) (c : Nat) (w : World) (hr : RdE 4 Pr.enc w A ps) (hk : ∀ p ∈ ps, p.ok) (hg : Good ps) (i0 : i64 m) (i1 : i64 r) (i2 : i64 b) :
    Calls Tryd.prog 114 #[.agg #[.slice A ps.length c], .int .i64 m, .int .i64 r, .int .i64 b, .int .i64 t] w fun e w' => e = .returned (.bool (verB ps m r b t)) ∧ Below w.heap.size w w' := by
  have hhas := has_dOf ps hk m r b i0 i1 i2
  have hat := at_dOf ps hk m r b i0 i1 i2
  have HKY := Lib.hid (hkey m r b i0 i1 i2)
  have hv : verB ps m r b t = (had ps m r b && (tagL ps m r b == t)) := rfl
  have HR := Lib.hid hr
  have HK := Lib.hid hk
  have HG := Lib.hid hg
  have HHAS := Lib.hid hhas
  have HAT := Lib.hid hat
  have HV := Lib.hid hv
  rw [hv]
  clear hr hk hg hhas hat hv i0 i1 i2
  generalize had ps m r b = hd at *
  generalize tagL ps m r b = tg at *
  go_enter Tryd.func114, Tryd.ntmps114
  go_wp2_with (fail)
  go_at_call 110
  refine (known_any ps A c _ (HR.out.below (blw_alloc (Below.refl _ _) _)) HK.out).mono ?_
  rintro e w1 ⟨hb, ⟨_, B, rfl, ho⟩ | ⟨hn, _⟩⟩
  · have HB := Lib.hid (below_then' (blw_alloc (Below.refl _ _) _) hb)
    have HO := Lib.hid ho
    clear hb ho
    cases hd
    all_goals
      go_wp2_with (at_lookup; refine wpList_lookup_own_ok_int _ rfl _ _ 203 rfl 207 3 .i64 law Tryd.underlying203 Tryd.underlying3 (zeroE _) B ps.length _ rfl HO.out _ _ rfl HKY.out ?_; intro c5 hat hwc; rw [HHAS.out]; rw [HAT.out] at hat; obtain rfl : tg = c5 := (by simpa using hat); clear hwc)
      go_ret
      exact ⟨rfl, HB.out⟩
  · exact absurd HG.out hn
theorem clone_any (ps : List Pr) (A : Option Addr) (c : Nat) (w : World) (hr : RdE 4 Pr.enc w A ps) (hl : ps.length ≤ 500) (hA : A = none → ps = [] ∧ c = 0) :
    Calls Tryd.prog 112 #[.slice A ps.length c] w fun e w' => ∃ B d, e = .returned (.slice B ps.length d) ∧ OwPr w.heap.size w' B d ps ∧ Below w.heap.size w w' := by
  have HR := Lib.hid hr
  clear hr
  have hnil : ∀ (w : World) (a : Option Addr) (l c : Nat), (binOp .eql 56 (.slice a l c) (.slice none 0 0)).run Tryd.prog w = .ok (.bool a.isNone) w := fun w a l c => Lib.run_eql_slice_nil w _ _ a l c 0 0 Tryd.underlying56
  cases A with
  | none =>
    obtain ⟨rfl, rfl⟩ := hA rfl
    go_enter Tryd.func112, Tryd.ntmps112
    go_wp2_with (fail)
    go_ret
    exact ⟨none, 0, rfl, World.ownsRow_nil _ _ _ _, Below.refl _ _⟩
  | some ad =>
    clear hA
    go_enter Tryd.func112, Tryd.ntmps112
    have hlit := World.ownsRow_lit (base := w.heap.size) (e := 211) (size := 4) w #[] 0 (Nat.le_refl _) (by decide) rfl
    have HL := Lib.hid hlit
    clear hlit
    have hl2 : (0 + ps.length) * 32 ≤ 140737488355328 := by omega
    go_wp2_with (at_builtin; refine appN (w0 := w) w.heap.size rfl (.tmp 5) (.tmp 6) 56 211 (.agg #[.int .i64 0, .int .i64 0, .int .i64 0, .int .i64 0]) 4 32 rfl Tryd.underlying56 info_pr rfl (by decide) (by decide) _ 0 [] ps (some ad) c rfl rfl (fun h => by cases h) (fun _ => rfl) (HR.out.below (blw_alloc (Below.refl _ _) _)) ?c1 HL.out (blw_alloc (Below.refl _ _) _) ?c2 hl2 ?_; (case c1 => intro x u hu; simp [Pr.enc] at hu; rcases hu with rfl | rfl | rfl | rfl <;> rfl); (case c2 => simp); intro v1 w1 ho1 hb1 _; have HO1 := Lib.hid ho1; have HB1 := Lib.hid hb1; clear ho1 hb1)
    go_ret
    obtain ⟨B, d, rfl, ho⟩ := OwPr.of (xs := ps) HO1.out (by omega) (by simp)
    exact ⟨B, d, rfl, ho, HB1.out⟩
/-- What Issue answers: the pairs, the tag, the code. -/
def issL (ps : List Pr) (m r b d : Int) : List Pr := if had ps m r b then ps else ps ++ [⟨m, r, b, d⟩]
def issT (ps : List Pr) (m r b d : Int) : Int := if had ps m r b then tagL ps m r b else d
set_option maxHeartbeats 2000000 in
theorem issue_ok (ps : List Pr) (m r b d : Int) (A : Option Addr) (c : Nat) (w : World) (hr : RdE 4 Pr.enc w A ps) (hk : ∀ p ∈ ps, p.ok) (hg : Good ps) (hA : A = none → ps = [] ∧ c = 0) (i0 : i64 m) (i1 : i64 r) (i2 : i64 b)
    (hw : wok m r b = true) (d0 : 0 ≤ d) (d1 : d ≤ 65535) (hroom : had ps m r b = true ∨ ps.length < 500) :
    Calls Tryd.prog 73 #[.agg #[.slice A ps.length c], .int .i64 m, .int .i64 r, .int .i64 b, .int .i64 d] w fun e w' => ∃ B q, e = .returned (.tuple #[.agg #[.slice B (issL ps m r b d).length q], .int .i64 (issT ps m r b d), .int .i64 0]) ∧ OwPr w.heap.size w' B q (issL ps m r b d) ∧ Below w.heap.size w w' := by
  have hl500 := hg.1
  have hhas := has_dOf ps hk m r b i0 i1 i2
  have hat := at_dOf ps hk m r b i0 i1 i2
  have HKY := Lib.hid (hkey m r b i0 i1 i2)
  have hwm := fun w => wmay_any m r b w
  rw [hw] at hwm
  have HW := Lib.hid hwm
  have HR := Lib.hid hr
  have HK := Lib.hid hk
  have HG := Lib.hid hg
  have HHAS := Lib.hid hhas
  have HAT := Lib.hid hat
  have HA := Lib.hid hA
  have HRM := Lib.hid hroom
  have hL : issL ps m r b d = if had ps m r b then ps else ps ++ [⟨m, r, b, d⟩] := rfl
  have hT : issT ps m r b d = if had ps m r b then tagL ps m r b else d := rfl
  have hcase : had ps m r b = true ∨ had ps m r b = false := by cases had ps m r b <;> simp
  clear hr hk hg hhas hat hwm hA hroom i0 i1 i2 hw
  rcases hcase with hc | hc
  · rw [hc] at hL hT HHAS
    rw [if_pos rfl] at hL hT
    rw [hL, hT]
    clear hL hT HRM
    have HC := Lib.hid hc
    clear hc
    generalize tagL ps m r b = tg at *
    go_enter Tryd.func73, Tryd.ntmps73
    go_wp2_with (fail)
    go_at_call 110
    refine (known_any ps A c _ (HR.out.below (blw_alloc (blw_alloc (Below.refl _ _) _) _)) HK.out).mono ?_
    rintro e w1 ⟨hb, ⟨_, B, rfl, ho⟩ | ⟨hn, _⟩⟩
    · obtain ⟨bc, bf⟩ := bcell hb
      have hz1 := hb.size
      simp at hz1
      have HB := Lib.hid (below_then' (blw_alloc (blw_alloc (Below.refl _ _) _) _) hb)
      have HO := Lib.hid ho
      have lt1 : w.heap.size < w1.heap.size := by omega
      have lt2 : w.heap.size + 1 < w1.heap.size := by omega
      have ag0 : w1.cell? ⟨w.heap.size, 0, none⟩ = some (.slice A ps.length c) := by rw [bc _ _ (by first | omega | (simp <;> omega))]; first | with_reducible assumption | go_simp
      have af0 : w1.frozen? ⟨w.heap.size, 0, none⟩ = false := by rw [bf _ _ (by first | omega | (simp <;> omega))]; first | with_reducible assumption | go_simp
      have bg0 : w1.cell? ⟨w.heap.size + 1, 0, none⟩ = some (.slice none 0 0) := by rw [bc _ _ (by first | omega | (simp <;> omega))]; first | with_reducible assumption | go_simp
      have bf0 : w1.frozen? ⟨w.heap.size + 1, 0, none⟩ = false := by rw [bf _ _ (by first | omega | (simp <;> omega))]; first | with_reducible assumption | go_simp
      clear hb ho bc bf
      go_wp2_with (fail)
      go_at_call 111
      refine (HW.out _).mono ?_
      rintro e w2 ⟨rfl, hb⟩
      obtain ⟨bc, bf⟩ := bcell hb
      have hz2 := hb.size
      simp at hz2
      have hba := (blw_alloc (Below.refl w1.heap.size w1) (.cells #[.int .i64 m, .int .i64 r, .int .i64 b] 207)).trans (hb.mono (show w1.heap.size ≤ _ by simp))
      have HB2 := Lib.hid (below_then HB.out HB.out.size hba)
      have HO2 := Lib.hid (map_after HO.out hba)
      have lt3 : w.heap.size < w2.heap.size := by omega
      have lt4 : w.heap.size + 1 < w2.heap.size := by omega
      have lt5 : w1.heap.size < w2.heap.size := by omega
      have cg0 : w2.cell? ⟨w.heap.size, 0, none⟩ = some (.slice A ps.length c) := by rw [bc _ _ (by first | omega | (simp <;> omega))]; first | with_reducible assumption | go_simp
      have cf0 : w2.frozen? ⟨w.heap.size, 0, none⟩ = false := by rw [bf _ _ (by first | omega | (simp <;> omega))]; first | with_reducible assumption | go_simp
      have dg0 : w2.cell? ⟨w.heap.size + 1, 0, none⟩ = some (.slice none 0 0) := by rw [bc _ _ (by first | omega | (simp <;> omega))]; first | with_reducible assumption | go_simp
      have df0 : w2.frozen? ⟨w.heap.size + 1, 0, none⟩ = false := by rw [bf _ _ (by first | omega | (simp <;> omega))]; first | with_reducible assumption | go_simp
      have eg0 : w2.cell? ⟨w1.heap.size, 0, none⟩ = some (.int .i64 m) := by rw [bc _ _ (by first | omega | (simp <;> omega))]; first | with_reducible assumption | go_simp
      have ef0 : w2.frozen? ⟨w1.heap.size, 0, none⟩ = false := by rw [bf _ _ (by first | omega | (simp <;> omega))]; first | with_reducible assumption | go_simp
      have eg1 : w2.cell? ⟨w1.heap.size, 1, none⟩ = some (.int .i64 r) := by rw [bc _ _ (by first | omega | (simp <;> omega))]; first | with_reducible assumption | go_simp
      have ef1 : w2.frozen? ⟨w1.heap.size, 1, none⟩ = false := by rw [bf _ _ (by first | omega | (simp <;> omega))]; first | with_reducible assumption | go_simp
      have eg2 : w2.cell? ⟨w1.heap.size, 2, none⟩ = some (.int .i64 b) := by rw [bc _ _ (by first | omega | (simp <;> omega))]; first | with_reducible assumption | go_simp
      have ef2 : w2.frozen? ⟨w1.heap.size, 2, none⟩ = false := by rw [bf _ _ (by first | omega | (simp <;> omega))]; first | with_reducible assumption | go_simp
      clear hb hba bc bf ag0 af0 bg0 bf0
      go_wp2_with (fail)
      go_at_call 112
      refine (clone_any ps A c _ (HR.out.below HB2.out) hl500 HA.out).mono ?_
      rintro e w3 ⟨B3, q3, rfl, ho3, hb⟩
      obtain ⟨bc, bf⟩ := bcell hb
      have hz3 := hb.size
      have HB3 := Lib.hid (below_then HB2.out HB2.out.size hb)
      have HO3 := Lib.hid (map_after HO2.out hb)
      have HP3 := Lib.hid ho3
      have lt6 : w.heap.size < w3.heap.size := by omega
      have lt7 : w.heap.size + 1 < w3.heap.size := by omega
      have lt8 : w1.heap.size < w3.heap.size := by omega
      have fg0 := (bc (w.heap.size + 1) 0 lt4).trans dg0
      have ff0 := (bf (w.heap.size + 1) 0 lt4).trans df0
      have gg0 := (bc w1.heap.size 0 lt5).trans eg0
      have gg1 := (bc w1.heap.size 1 lt5).trans eg1
      have gg2 := (bc w1.heap.size 2 lt5).trans eg2
      clear hb ho3 bc bf cg0 cf0 dg0 df0 eg0 ef0 eg1 ef1 eg2 ef2
      go_wp2_with (at_lookup; refine wpList_lookup_own_ok_int _ rfl _ _ 203 rfl 207 3 .i64 law Tryd.underlying203 Tryd.underlying3 (zeroE _) B ps.length _ rfl (HO3.out.alloc _) _ _ rfl HKY.out ?_; intro c5 hat hwc; rw [HHAS.out]; rw [HAT.out] at hat; obtain rfl : tg = c5 := (by simpa using hat); clear hwc hat)
      refine bodyPost_ret (v := .tuple #[.agg #[.slice B3 ps.length q3], .int .i64 tg, .int .i64 0]) (by simp [results, Tryd.results73, go_sem, fg0, ff0, lt7, Nat.ne_of_lt lt7]) rfl ⟨B3, q3, rfl, ?_, ?_⟩
      · exact (ownsRow_setCell_below (own_mono HP3.out (show w.heap.size + 1 + 1 ≤ w2.heap.size by omega)) (a := ⟨w.heap.size + 1, 0, none⟩) (by simp) _).alloc _ |> fun h => own_mono h (by omega)
      · exact blw_alloc (HB3.out.setCell (p := ⟨w.heap.size + 1, 0, none⟩) (by simp) _) _
    · exact absurd HG.out hn
  · rw [hc] at hL hT HHAS
    rw [if_neg (by decide)] at hL hT
    rw [hL, hT]
    have hl32 : (ps.length + 1) * 32 ≤ 140737488355328 := by omega
    have hlt : ps.length < 500 := by rcases HRM.out with h | h <;> first | exact h | (rw [hc] at h; cases h)
    clear hL hT HRM
    have HC := Lib.hid hc
    clear hc
    generalize tagL ps m r b = tg at *
    go_enter Tryd.func73, Tryd.ntmps73
    go_wp2_with (fail)
    go_at_call 110
    refine (known_any ps A c _ (HR.out.below (blw_alloc (blw_alloc (Below.refl _ _) _) _)) HK.out).mono ?_
    rintro e w1 ⟨hb, ⟨_, B, rfl, ho⟩ | ⟨hn, _⟩⟩
    · obtain ⟨bc, bf⟩ := bcell hb
      have hz1 := hb.size
      simp at hz1
      have HB := Lib.hid (below_then' (blw_alloc (blw_alloc (Below.refl _ _) _) _) hb)
      have HO := Lib.hid ho
      have lt1 : w.heap.size < w1.heap.size := by omega
      have lt2 : w.heap.size + 1 < w1.heap.size := by omega
      have ag0 : w1.cell? ⟨w.heap.size, 0, none⟩ = some (.slice A ps.length c) := by rw [bc _ _ (by first | omega | (simp <;> omega))]; first | with_reducible assumption | go_simp
      have af0 : w1.frozen? ⟨w.heap.size, 0, none⟩ = false := by rw [bf _ _ (by first | omega | (simp <;> omega))]; first | with_reducible assumption | go_simp
      have bg0 : w1.cell? ⟨w.heap.size + 1, 0, none⟩ = some (.slice none 0 0) := by rw [bc _ _ (by first | omega | (simp <;> omega))]; first | with_reducible assumption | go_simp
      have bf0 : w1.frozen? ⟨w.heap.size + 1, 0, none⟩ = false := by rw [bf _ _ (by first | omega | (simp <;> omega))]; first | with_reducible assumption | go_simp
      clear hb ho bc bf
      go_wp2_with (fail)
      go_at_call 111
      refine (HW.out _).mono ?_
      rintro e w2 ⟨rfl, hb⟩
      obtain ⟨bc, bf⟩ := bcell hb
      have hz2 := hb.size
      simp at hz2
      have hba := (blw_alloc (Below.refl w1.heap.size w1) (.cells #[.int .i64 m, .int .i64 r, .int .i64 b] 207)).trans (hb.mono (show w1.heap.size ≤ _ by simp))
      have HB2 := Lib.hid (below_then HB.out HB.out.size hba)
      have HO2 := Lib.hid (map_after HO.out hba)
      have lt3 : w.heap.size < w2.heap.size := by omega
      have lt4 : w.heap.size + 1 < w2.heap.size := by omega
      have lt5 : w1.heap.size < w2.heap.size := by omega
      have cg0 : w2.cell? ⟨w.heap.size, 0, none⟩ = some (.slice A ps.length c) := by rw [bc _ _ (by first | omega | (simp <;> omega))]; first | with_reducible assumption | go_simp
      have cf0 : w2.frozen? ⟨w.heap.size, 0, none⟩ = false := by rw [bf _ _ (by first | omega | (simp <;> omega))]; first | with_reducible assumption | go_simp
      have dg0 : w2.cell? ⟨w.heap.size + 1, 0, none⟩ = some (.slice none 0 0) := by rw [bc _ _ (by first | omega | (simp <;> omega))]; first | with_reducible assumption | go_simp
      have df0 : w2.frozen? ⟨w.heap.size + 1, 0, none⟩ = false := by rw [bf _ _ (by first | omega | (simp <;> omega))]; first | with_reducible assumption | go_simp
      have eg0 : w2.cell? ⟨w1.heap.size, 0, none⟩ = some (.int .i64 m) := by rw [bc _ _ (by first | omega | (simp <;> omega))]; first | with_reducible assumption | go_simp
      have ef0 : w2.frozen? ⟨w1.heap.size, 0, none⟩ = false := by rw [bf _ _ (by first | omega | (simp <;> omega))]; first | with_reducible assumption | go_simp
      have eg1 : w2.cell? ⟨w1.heap.size, 1, none⟩ = some (.int .i64 r) := by rw [bc _ _ (by first | omega | (simp <;> omega))]; first | with_reducible assumption | go_simp
      have ef1 : w2.frozen? ⟨w1.heap.size, 1, none⟩ = false := by rw [bf _ _ (by first | omega | (simp <;> omega))]; first | with_reducible assumption | go_simp
      have eg2 : w2.cell? ⟨w1.heap.size, 2, none⟩ = some (.int .i64 b) := by rw [bc _ _ (by first | omega | (simp <;> omega))]; first | with_reducible assumption | go_simp
      have ef2 : w2.frozen? ⟨w1.heap.size, 2, none⟩ = false := by rw [bf _ _ (by first | omega | (simp <;> omega))]; first | with_reducible assumption | go_simp
      clear hb hba bc bf ag0 af0 bg0 bf0
      go_wp2_with (fail)
      go_at_call 112
      refine (clone_any ps A c _ (HR.out.below HB2.out) hl500 HA.out).mono ?_
      rintro e w3 ⟨B3, q3, rfl, ho3, hb⟩
      obtain ⟨bc, bf⟩ := bcell hb
      have hz3 := hb.size
      have HB3 := Lib.hid (below_then HB2.out HB2.out.size hb)
      have HO3 := Lib.hid (map_after HO2.out hb)
      have HP3 := Lib.hid ho3
      have lt6 : w.heap.size < w3.heap.size := by omega
      have lt7 : w.heap.size + 1 < w3.heap.size := by omega
      have lt8 : w1.heap.size < w3.heap.size := by omega
      have fg0 := (bc (w.heap.size + 1) 0 lt4).trans dg0
      have ff0 := (bf (w.heap.size + 1) 0 lt4).trans df0
      have gg0 := (bc w1.heap.size 0 lt5).trans eg0
      have gg1 := (bc w1.heap.size 1 lt5).trans eg1
      have gg2 := (bc w1.heap.size 2 lt5).trans eg2
      clear hb ho3 bc bf cg0 cf0 dg0 df0 eg0 ef0 eg1 ef1 eg2 ef2
      go_wp2_with (first | (at_lookup; refine wpList_lookup_own_ok_int _ rfl _ _ 203 rfl 207 3 .i64 law Tryd.underlying203 Tryd.underlying3 (zeroE _) B ps.length _ rfl (HO3.out.alloc _) _ _ rfl HKY.out ?_; intro c5 hat hwc; rw [HHAS.out]; rw [HAT.out] at hat; obtain rfl : tg = c5 := (by simpa using hat); clear hwc hat) | (at_builtin; refine app1g (w0 := _) (w.heap.size + 1 + 1) rfl (.tmp 62) (.tmp 68) 56 211 (.agg #[.int .i64 0, .int .i64 0, .int .i64 0, .int .i64 0]) 4 32 rfl Tryd.underlying56 info_pr rfl (by decide) (by decide) _ ps.length (ps.flatMap Pr.enc) [.int .i64 m, .int .i64 r, .int .i64 b, .int .i64 d] rfl _ rfl rfl ?c1 ?co (Below.refl _ _) ?cb ?cg hl32 ?_; (case c1 => simp [Value.oneCell']); (case co => exact World.ownsRow.alloc (own_mono HP3.out (by omega)) _); (case cb => simp; omega); (case cg => simp); intro v4 w4 ho4 hb4 hg4 hw4; have hne4 : v4.ownBlock ≠ some w3.heap.size := (by rcases hw4 with h | ⟨g, h, hle⟩; (exact fun e => own_ne HP3.out (Nat.le_refl _) (e.symm.trans h)); (rw [h]; simp at hle; intro e; cases e; omega)); clear hw4; have nc4 := grown_cell hg4 (g := w3.heap.size) (by simp) (own_ne HP3.out (Nat.le_refl _)); have nf4 := grown_frozen hg4 (g := w3.heap.size) (by simp) (own_ne HP3.out (Nat.le_refl _)); have bc4 := fun o => hb4.cell (p := ⟨w.heap.size + 1, o, none⟩) (by simp); have bf4 := fun o => hb4.frozen (p := ⟨w.heap.size + 1, o, none⟩) (by simp); have hz4 := hb4.size; simp at hz4; have HO4 := Lib.hid ho4; have HB4 := Lib.hid hb4; clear hg4 ho4 hb4; have k0 : w4.cell? ⟨w3.heap.size, 0, none⟩ = some (.slice B3 ps.length q3) := (by rw [nc4]; go_simp); have l0 : w4.frozen? ⟨w3.heap.size, 0, none⟩ = false := (by rw [nf4]; go_simp); have k1 : w4.cell? ⟨w.heap.size + 1, 0, none⟩ = some (.slice none 0 0) := (by rw [bc4]; go_simp); have l1 : w4.frozen? ⟨w.heap.size + 1, 0, none⟩ = false := (by rw [bf4]; go_simp); clear nc4 nf4 bc4 bf4; obtain ⟨B5, q5, hv5, hp5⟩ := OwPr.of (xs := ps ++ [⟨m, r, b, d⟩]) HO4.out (by simp) (by simp [Pr.enc]); subst hv5; have HP5 := Lib.hid hp5; clear hp5 HO4))
      have hln : (ps ++ [(⟨m, r, b, d⟩ : Pr)]).length = ps.length + 1 := by simp
      refine bodyPost_ret (v := .tuple #[.agg #[.slice B5 (ps ++ [(⟨m, r, b, d⟩ : Pr)]).length q5], .int .i64 d, .int .i64 0]) (by simp [results, Tryd.results73, go_sem, k0, l0, k1, l1, lt6, lt7, Nat.ne_of_lt lt7]) rfl ⟨B5, q5, rfl, ?_, ?_⟩
      · exact own_mono (ownsRow_setCell_below (ownsRow_setCell_other (base := w.heap.size + 1 + 1) HP5.out (a := ⟨w3.heap.size, 0, none⟩) hne4 _) (a := ⟨w.heap.size + 1, 0, none⟩) (by simp) _) (by omega)
      · exact (((HB3.out.alloc (by omega) _).trans (HB4.out.mono (by omega))).setCell (p := ⟨w3.heap.size, 0, none⟩) (by simp; omega) _).setCell (p := ⟨w.heap.size + 1, 0, none⟩) (by simp) _
    · exact absurd HG.out hn
end Go.Proofs.YtccjcdecpgigpaaDoor.Orc
