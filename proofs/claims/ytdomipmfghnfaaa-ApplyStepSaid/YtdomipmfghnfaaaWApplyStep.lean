/- The walk of ApplyStep. -/
import Derived.Test.YtdomipmfghnfaaaCell
import Derived.Deep.RegionHeld3
import Derived.Deep.AppendLies
namespace Go.Proofs.Ytdomipmfghnfaaa.ApplyStep
open Go.RowKit Go.Proofs.Ytdomipmfghnfaaa.Base Go.Proofs.Ytdomipmfghnfaaa.Cell
set_option linter.unusedVariables false
set_option linter.unusedSimpArgs false

/-- A raw write: a whole number, and a word. -/
structure Rw where
  at_ : Int
  word : UInt32
def Rw.enc (x : Rw) : List Value := [.int .i64 x.at_, .int .u32 (x.word.toNat : Int)]
def Rw.ok (x : Rw) : Prop := -9223372036854775808 ≤ x.at_ ∧ x.at_ ≤ 9223372036854775807
def toWr (n : Nat) (x : Rw) : Wr := ⟨(pk x.at_ n).toNat, x.word⟩

theorem walk (raw : List UInt32) (A : Option Addr) (c : Nat) (l : List Rw) (L : Option Addr) (d : Nat) (k : Int) (w : World) (hr : RdE 1 encW w A raw) (hrb : raw.length * 4 ≤ 140737488351232) (hl : RdE 2 Rw.enc w L l) (hlok : ∀ x ∈ l, x.ok)
    (wk : (Lit.int .i64 k).wf = true) :
    Calls Try.prog 9 #[.slice A raw.length c, .slice L l.length d, .int .i64 k] w fun e w' => e = .returned (.bool true) ∧ Below w.heap.size w w' := by
  obtain ⟨k0, k1⟩ := i64_bound wk
  clear wk
  have hmx := hl.1
  have HR := Lib.hid hr
  have HL := Lib.hid hl
  have HK := Lib.hid hlok
  clear hr hl hlok
  obtain ⟨i0, hi0, hz0, hz1, hz2⟩ := info_parts info_wr
  go_enter Try.func9, Try.ntmps9
  go_wp2_with (go_at_call 23; refine (some_any raw 100 _ A c _ HR.out rfl (by omega) hrb).mono ?_; rintro e w1 ⟨B, q, rfl, ho, hb⟩; have HO := Lib.hid ho; have HB := Lib.hid hb; clear ho hb)
  have hcl : 1 ≤ (someL raw 100).length ∧ (someL raw 100).length ≤ 100 := by
    unfold someL
    split
    · simp
    · rename_i h
      have := List.length_pos_iff.2 h
      simp at this ⊢
      omega
  obtain ⟨cl0, cl1⟩ := hcl
  generalize someL raw 100 = cw at *
  go_loopw [8, 9] (fun b i wr => ∃ j : Nat, j ≤ l.length ∧ j ≤ 100 ∧ i = .int .i64 j ∧ wr.ownsRow w1.heap.size 47 2 b ((l.take j).map (toWr cw.length)).length (((l.take j).map (toWr cw.length)).flatMap Wr.enc) ∧ Below w1.heap.size w1 wr) (fun _ i _ => l.length - (intOf i).toNat)
  case atStart => exact ⟨0, by omega, by omega, rfl, World.ownsRow_nil _ _ _ _, Below.refl _ _⟩
  case round =>
    obtain ⟨j, hj, hj2, rfl, hown, hbl⟩ := hrel
    have HOl := Lib.hid hown
    have HBl := Lib.hid hbl
    clear hown hbl
    by_cases hlt : j < l.length ∧ j < 100
    · obtain ⟨h1, h2⟩ := hlt
      obtain ⟨ad, hL, hc0, hc1⟩ := ((HL.out.below HB.out).below HBl.out).at2 j h1 _ _ rfl
      subst hL
      obtain ⟨x0, x1⟩ := HK.out l[j] (List.getElem_mem h1)
      have hj0 : (0 : Int) ≤ (j : Int) := by omega
      have hjl : (j : Int) < (l.length : Int) := by omega
      have hne : u8.ownBlock ≠ some (ad.add (j * 2)).block := by
        intro h
        have h3 := (HOl.out.lt _ h).1
        obtain ⟨ad', e', c', _⟩ := (HL.out.below HB.out).at2 j h1 _ _ rfl
        cases e'
        have := World.block_lt_of_cell? w1 _ c'
        omega
      have hsz := HBl.out.size
      have hk := Lib.hid (show ∀ w4 w5 : World, w4.grownBy w5 u8.ownBlock → w4.cell? (ad.add (j * 2)) = some (.int .i64 l[j].at_) → w4.cell? ⟨(ad.add (j * 2)).block, (ad.add (j * 2)).off + 1, none⟩ = some (.int .u32 (l[j].word.toNat : Int)) → (ad.add (j * 2)).block < w4.heap.size →
          w5.cell? (ad.add (j * 2)) = some (.int .i64 l[j].at_) ∧ w5.cell? ⟨(ad.add (j * 2)).block, (ad.add (j * 2)).off + 1, none⟩ = some (.int .u32 (l[j].word.toNat : Int)) from
        fun w4 w5 hg g0 g1 hlt => ⟨(hg.cell_far _ hlt (Ne.symm hne)).trans g0, (hg.cell_far ⟨(ad.add (j * 2)).block, (ad.add (j * 2)).off + 1, none⟩ hlt (Ne.symm hne)).trans g1⟩)
      have hadlt := World.block_lt_of_cell? wr _ hc0
      have hadlt2 : ad.block < wr.heap.size := by rw [← add_block ad (j * 2)]; exact hadlt
      go_wp2
      go_region_held3 (fun w' => w'.cell? (ad.add (j * 2)) = some (.int .i64 l[j].at_) ∧ w'.cell? ⟨(ad.add (j * 2)).block, (ad.add (j * 2)).off + 1, none⟩ = some (.int .u32 (l[j].word.toNat : Int))) (first | go_keep | exact hk.out _ _ hgrow (by go_simp) (by go_simp) (by simp; omega)) (first | (go_at_call 15; refine (picked_any _ _ _ x0 x1 (by omega)).mono ?_; rintro e w' ⟨rfl, rfl⟩) | (refine step_append_lies _ (by rfl) _ _ _ (by rfl) w1.heap.size 47 i0 _ 2 16 Try.underlying44 hi0 hz0 hz1 hz2 rfl (by omega) u8 _ _ (by rfl) ((HOl.out.alloc _).drew) ⟨wr.heap.size, 0, none⟩ 1 1 [.int .i64 (pk l[j].at_ cw.length), .int .u32 (l[j].word.toNat : Int)] (by rfl) (by rfl) (World.news_of_block (cs := #[.int .i64 (pk l[j].at_ cw.length), .int .u32 (l[j].word.toNat : Int)]) (t := 47) (fr := (0, 0)) (heap_alloc_new wr _)) (by simp [Value.oneCell']) (by omega) (by simp [maxLen]; omega) (by simp; omega) (by simp; omega) (wr.heap.size + 1) (by simp) ?_; intro gg cap w5 hown1 hgrow hat hlt))
      go_wp2
      go_roundw
      case rel =>
        have hs := List.take_succ_eq_append_getElem h1
        refine ⟨j + 1, by omega, by omega, by go_num, ?_, ((blw_alloc HBl.out _).drew).grown hgrow ((blw_alloc HBl.out _).drew).size (own_base HOl.out)⟩
        rw [hs, List.map_append, List.flatMap_append, List.length_append]
        have hpk := pk_bound l[j].at_ cw.length (by omega)
        have he : ([l[j]].map (toWr cw.length)).flatMap Wr.enc = [.int .i64 (pk l[j].at_ cw.length), .int .u32 (l[j].word.toNat : Int)] := by
          simp [toWr, Wr.enc]; omega
        have hlj : ((l.take j).map (toWr cw.length)).length = j := by simp; omega
        rw [he]
        rw [hlj] at hown1 ⊢
        exact hown1
      case measure => simp [intOf]; omega
    · have hj3 : l.take j = l.take 100 := by
        rcases Nat.lt_or_ge j l.length with h | h
        · have : j = 100 := by omega
          rw [this]
        · rw [List.take_of_length_le (by omega), List.take_of_length_le (by omega)]
      have hln : ((l.take j).map (toWr cw.length)).length ≤ 100 := by simp; omega
      have hin0 : ∀ x ∈ (l.take j).map (toWr cw.length), x.at_ < cw.length := by
        intro x hx
        obtain ⟨y, _, rfl⟩ := List.mem_map.1 hx
        have hpk := pk_bound y.at_ cw.length (by omega)
        simp only [toWr]
        omega
      generalize (l.take j).map (toWr cw.length) = ws0 at *
      have hsz := HBl.out.size
      have HIN := Lib.hid hin0
      clear hin0 hj3
      by_cases hlt1 : j < l.length
      all_goals
        go_wp2_with (at_builtin; refine app1 (w0 := w1) w1.heap.size rfl (.tmp 46) (.tmp 48) 44 47 (.agg #[.int .i64 0, .int .u32 0]) 2 16 rfl Try.underlying44 info_wr rfl (by decide) (by decide) _ _ _ [.int .i64 0, .int .u32 1] rfl rfl rfl ?c3 HOl.out HBl.out HBl.out.size ?c4 ?_; (case c3 => simp [Value.oneCell']); (case c4 => omega); intro v2 w2 ho2 hb2 _ _; obtain ⟨ws, hws⟩ : ∃ ws : List Wr, ws = ws0 ++ [⟨0, 1⟩] := ⟨_, rfl⟩; obtain ⟨A2, c2, rfl, ho3⟩ := OwWr.of (xs := ws) ho2 (by rw [hws]; simp) (by rw [hws]; simp [Wr.enc]); have HWS := Lib.hid hws; have HO2 := Lib.hid ho3; have HB2 := Lib.hid hb2; clear ho2 ho3 hb2 hws)
        have hws := HWS.out
        clear HWS
        have hwl : ws.length = ws0.length + 1 := by rw [hws]; simp
        have hwin : ∀ x ∈ ws, x.at_ < cw.length := by
          intro x hx
          rw [hws] at hx
          rcases List.mem_append.1 hx with h | h
          · exact HIN.out x h
          · simp at h
            subst h
            exact cl0
        have HWI := Lib.hid hwin
        have hwl1 : 1 ≤ ws.length := by omega
        have hwl2 : ws.length ≤ 101 := by omega
        clear hwin hws HIN
        clear hwl
        have hA2 := HO2.out.read.2 (by intro hn; subst hn; simp at hwl1)
        obtain ⟨a2, rfl, hA2⟩ := hA2
        clear hA2
        have hpk := pk_bound k ws.length (by omega)
        obtain ⟨p0, p1⟩ := hpk
        obtain ⟨n, hn⟩ : ∃ n : Nat, pk k ws.length = (n : Int) := ⟨(pk k ws.length).toNat, by omega⟩
        have hnl : n < ws.length := by omega
        have hC2 := Lib.hid (HO.out.read.below HB2.out)
        have hW2 := Lib.hid HO2.out.read
        have hcap := own_cap HO2.out
        have n1 := Lib.hid (show ((n : Int) + 1) = ((n + 1 : Nat) : Int) by omega)
        go_wp2_with (first | (go_at_call 15; refine (picked_any _ _ _ k0 k1 (by omega)).mono ?_; rintro e w' ⟨rfl, rfl⟩; rw [hn]) | fail)
        clear HBl HOl
        have hn1 : n + 1 ≤ ws.length := by omega
        go_wp2_with (fail)
        go_at_call 24
        refine (apply_any cw ws n _ B (some a2) q c2 w2 hC2.out hW2.out cl0 (by omega) (by omega) (by omega) HWI.out rfl (by omega)).mono ?_
        rintro e w3 ⟨B3, q3, rfl, ho3, hb3⟩
        have hlen3 := applyL_len (ws.take n) cw
        obtain ⟨x3, hx3⟩ : ∃ x3, x3 = applyL cw (ws.take n) := ⟨_, rfl⟩
        rw [← hx3] at ho3 hlen3 ⊢
        have HX3 := Lib.hid hx3
        have HL3 := Lib.hid hlen3
        have HO3 := Lib.hid ho3
        have HB3 := Lib.hid hb3
        have HC3 := Lib.hid (hC2.out.below hb3)
        have HW3 := Lib.hid (hW2.out.below hb3)
        clear ho3 hb3 hx3 hlen3
        go_wp2_with (fail)
        go_at_call 24
        refine (apply_any cw ws (n + 1) _ B (some a2) q c2 w3 HC3.out HW3.out cl0 (by omega) (by omega) (by omega) HWI.out n1.out (by omega)).mono ?_
        rintro e w4 ⟨B4, q4, rfl, ho4, hb4⟩
        have hlen4 := applyL_len (ws.take (n + 1)) cw
        obtain ⟨x4, hx4⟩ : ∃ x4, x4 = applyL cw (ws.take (n + 1)) := ⟨_, rfl⟩
        rw [← hx4] at ho4 hlen4 ⊢
        have hxx : x4 = x3.set ws[n].at_ ws[n].word := by
          rw [hx4, HX3.out, List.take_succ_eq_append_getElem hnl, applyL_snoc]
        have HXX := Lib.hid hxx
        have HL4 := Lib.hid hlen4
        have HO4 := Lib.hid ho4
        have HB4 := Lib.hid hb4
        have HW4 := Lib.hid (HW3.out.below hb4)
        have HR3 := Lib.hid (HO3.out.read.below hb4)
        clear ho4 hb4 hx4 hxx hlen4
        have hone : (ws.drop n).take 1 = [ws[n]] := by
          rw [List.drop_eq_getElem_cons hnl]; rfl
        have hL1 := (HW4.out.drop n).take 1
        rw [hone] at hL1
        have HL1 := Lib.hid hL1
        have hwn := Lib.hid (HWI.out ws[n] (List.getElem_mem hnl))
        clear hone hL1
        go_wp2_with (fail)
        go_at_call 24
        refine (apply_any x3 [ws[n]] 1 _ B3 (some (a2.add (n * 2))) q3 1 w4 HR3.out HL1.out (by rw [HL3.out]; exact cl0) (by rw [HL3.out]; omega) (by simp) (by simp) (by intro x hx; rw [List.mem_singleton.1 hx, HL3.out]; exact hwn.out) rfl (by simp)).mono ?_
        rintro e w5 ⟨B5, q5, rfl, ho5, hb5⟩
        have hx5 : applyL x3 (List.take 1 [ws[n]]) = x4 := by rw [HXX.out]; rfl
        rw [hx5] at ho5 ⊢
        have HO5 := Lib.hid ho5
        have HR4 := Lib.hid (HO4.out.read.below hb5)
        obtain ⟨ad, hae, hc0, hc1⟩ := (HW4.out.below hb5).at2 n hnl _ _ rfl
        cases hae
        have hl4 := HL4.out
        have hcw := hwn.out
        obtain ⟨b4, hbe, hc4⟩ := HR4.out.at1 ws[n].at_ (by omega) _ rfl
        subst hbe
        have hv : x4[ws[n].at_]'(by omega) = ws[n].word := by
          have h := HXX.out
          subst h
          simp
        rw [hv] at hc4
        have HB5 := Lib.hid (((below_then HB.out HB.out.size HB2.out).trans (HB3.out.mono (by have := HB.out.size; have := HB2.out.size; omega))).trans ((HB4.out.mono (by have := HB.out.size; have := HB2.out.size; have := HB3.out.size; omega)).trans (hb5.mono (by have := HB.out.size; have := HB2.out.size; have := HB3.out.size; have := HB4.out.size; omega))))
        clear hb5 ho5 hx5 hv
        have hc4i : (ws[n].at_ : Int) < (x4.length : Int) := by omega
        have hc4n : ws[n].at_ < x4.length := by omega
        have hat0 : (0 : Int) ≤ (ws[n].at_ : Int) := by omega
        have hni : (n : Int) < (ws.length : Int) := by omega
        have hn0 : (0 : Int) ≤ (n : Int) := by omega
        have he4 : ((x4.length : Int) == (cw.length : Int)) = true := by simp; omega
        have he4' : (x4.length == cw.length) = true := by simp; omega
        have HE4 := Lib.hid hl4
        clear hl4
        go_wp2
        go_quiet ((go_at_call 25; exact same_qT _ _ _ _ _ _ _ _ HO5.out.read HR4.out rfl))
        go_wp2
        go_ret
        exact ⟨rfl, blw_step HB5.out _⟩
end Go.Proofs.Ytdomipmfghnfaaa.ApplyStep
