/- The walk of WindowKnows. -/
import Derived.Test.YtjlihpbnhojdgaaUsed
namespace Go.Proofs.Ytjlihpbnhojdgaa.WindowKnows
open Go.RowKit Go.Proofs.Ytjlihpbnhojdgaa.Base Go.Proofs.Ytjlihpbnhojdgaa.Win
set_option linter.unusedVariables false
set_option linter.unusedSimpArgs false
set_option maxRecDepth 20000
theorem info_bool : (Try.prog.info? 4).map (fun i => (i.zero, i.size, i.bytes)) = some (some (.bool false), 1, 1) := by kernel_rfl
theorem sorted_eq : ∀ (l m : List Int), l.Pairwise (· < ·) → m.Pairwise (· < ·) → (∀ x, x ∈ l ↔ x ∈ m) → l = m
  | [], [], _, _, _ => rfl
  | [], y :: m, _, _, h => by have := (h y).2 (by simp); simp at this
  | x :: l, [], _, _, h => by have := (h x).1 (by simp); simp at this
  | x :: l, y :: m, hl, hm, h => by
    obtain ⟨l1, l2⟩ := List.pairwise_cons.1 hl
    obtain ⟨m1, m2⟩ := List.pairwise_cons.1 hm
    have e : x = y := by
      rcases List.mem_cons.1 ((h x).1 (by simp)) with a | a
      · exact a
      · rcases List.mem_cons.1 ((h y).2 (by simp)) with b | b
        · exact b.symm
        · have := l1 y b
          have := m1 x a
          omega
    subst e
    rw [sorted_eq l m l2 m2 fun z => ?_]
    constructor
    · intro hz
      rcases List.mem_cons.1 ((h z).1 (List.mem_cons_of_mem _ hz)) with a | a
      · have := l1 z hz; omega
      · exact a
    · intro hz
      rcases List.mem_cons.1 ((h z).2 (List.mem_cons_of_mem _ hz)) with a | a
      · have := m1 z hz; omega
      · exact a
def near (h : Int) (had : List Int) (x : Int) : Bool := decide (x ∈ had) && decide (x > h - 64)
def filt (h : Int) (had : List Int) : Nat → List Int
  | 0 => []
  | n + 1 => filt h had n ++ (if near h had ((n : Int) + 1) then [(n : Int) + 1] else [])
theorem filt_len (h : Int) (had : List Int) : ∀ n, (filt h had n).length ≤ n
  | 0 => Nat.le_refl _
  | n + 1 => by
    have := filt_len h had n
    simp only [filt, List.length_append]
    split <;> simp <;> omega
theorem filt_mem (h : Int) (had : List Int) (x : Int) : ∀ n, x ∈ filt h had n ↔ (1 ≤ x ∧ x ≤ (n : Int) ∧ near h had x = true)
  | 0 => by simp [filt]; omega
  | n + 1 => by
    simp only [filt, List.mem_append, filt_mem h had x n]
    constructor
    · rintro (⟨a, b, c⟩ | a)
      · exact ⟨a, by omega, c⟩
      · split at a
        · obtain rfl : x = (n : Int) + 1 := by simpa using a
          exact ⟨by omega, by omega, by assumption⟩
        · simp at a
    · rintro ⟨a, b, c⟩
      by_cases e : x = (n : Int) + 1
      · subst e; right; rw [if_pos c]; simp
      · exact .inl ⟨a, by omega, c⟩
theorem filt_sorted (h : Int) (had : List Int) : ∀ n, (filt h had n).Pairwise (· < ·)
  | 0 => List.Pairwise.nil
  | n + 1 => by
    simp only [filt]
    refine List.pairwise_append.2 ⟨filt_sorted h had n, by split <;> simp, fun a ha b hb => ?_⟩
    have := (filt_mem h had a n).1 ha
    split at hb
    · simp at hb; omega
    · simp at hb
theorem filt_pre (h : Int) (had : List Int) (n : Nat) : ∀ m, ∃ r, filt h had (n + m) = filt h had n ++ r
  | 0 => ⟨[], by simp⟩
  | m + 1 => by
    obtain ⟨r, hr⟩ := filt_pre h had n m
    exact ⟨r ++ (if near h had (((n + m : Nat) : Int) + 1) then [((n + m : Nat) : Int) + 1] else []), by
      show filt h had (n + m) ++ _ = _
      rw [hr, List.append_assoc]
      rfl⟩
theorem filt_at (h : Int) (had : List Int) (n : Nat) (hn : n < 300) (hp : near h had ((n : Int) + 1) = true) : (filt h had 300)[(filt h had n).length]? = some ((n : Int) + 1) := by
  obtain ⟨r, hr⟩ := filt_pre h had (n + 1) (300 - (n + 1))
  rw [show n + 1 + (300 - (n + 1)) = 300 by omega] at hr
  rw [hr]
  simp only [filt, hp, if_true]
  rw [List.append_assoc, List.getElem?_append_right (Nat.le_refl _)]
  simp
theorem used_filt {h : Int} {B : Nat} {had : List Int} (H : InvW h B had) (hh : h ≤ 300) : upL h B 64 = filt h had 300 := by
  refine sorted_eq _ _ (upL_sorted h B 64) (filt_sorted h had 300) fun x => ?_
  rw [upL_mem, filt_mem]
  unfold near
  simp only [Bool.and_eq_true, decide_eq_true_eq]
  constructor
  · rintro ⟨i, h1, h2, rfl⟩
    have hm := (H.bit i h1).1 h2
    have := H.rng _ hm
    exact ⟨by omega, by omega, hm, by omega⟩
  · rintro ⟨h1, h2, h3, h4⟩
    have := H.rng _ h3
    refine ⟨(h - x).toNat, by omega, (H.bit _ (by omega)).2 ?_, by omega⟩
    rwa [show h - ((h - x).toNat : Int) = x by omega]
theorem top_in {h : Int} {B : Nat} {had : List Int} (H : InvW h B had) (hn : had ≠ []) : h ∈ filt h had 300 ∨ 300 < h := by
  obtain ⟨x, hx⟩ := List.exists_mem_of_ne_nil had hn
  have hr := H.rng x hx
  have hw := (wmay_pos H.may (by omega)).2.1
  by_cases h3 : 300 < h
  · exact .inr h3
  · left
    have hb := (H.bit 0 (by decide)).1 (by rw [← tb_iff]; simpa using hw)
    rw [filt_mem]
    unfold near
    simp only [Bool.and_eq_true, decide_eq_true_eq]
    exact ⟨by omega, by omega, by simpa using hb, by omega⟩
theorem own_after {B : Nat} {e : TypeId} {k : Nat} {v : Value} {n : Nat} {xs : List Value} {w w' : World} (h : w.ownsRow B e k v n xs) (hb : Below w.heap.size w w') : w'.ownsRow B e k v n xs :=
  h.kept (row := none) ⟨hb.os, hb.tape, hb.output, hb.size, fun j hj _ => hb.block j hj⟩ (by cases hv : v.ownBlock <;> simp)
def Marks (had : List Int) (L : List Bool) : Prop := L.length = 301 ∧ ∀ i : Nat, i < 301 → L[i]? = some (decide ((i : Int) ∈ had))
theorem marks_nil : Marks [] (List.replicate 301 false) := ⟨List.length_replicate .., fun i hi => by rw [List.getElem?_replicate, if_pos hi]; rfl⟩
theorem made_bool (n : Nat) : (madeCells (Value.bool false).cells (n * 1)).toList = (List.replicate n false).map Value.bool := by
  rw [List.map_replicate, List.eq_replicate_iff]
  refine ⟨by simp [madeCells], fun b hb => ?_⟩
  simp only [madeCells, Array.toList_map, List.mem_map] at hb
  obtain ⟨a, _, rfl⟩ := hb
  show (#[Value.bool false])[a % 1]! = .bool false
  rw [Nat.mod_one]
  rfl
theorem inv_empty {h : Int} {B : Nat} (H : InvW h B []) : h = 0 := by
  rcases wmay_nonneg H.may with ⟨a, _⟩ | a
  · exact a
  · have hw := (wmay_pos H.may a).2.1
    have := (H.bit 0 (by decide)).1 (by rw [← tb_iff]; simpa using hw)
    simp at this
theorem marks_add {had : List Int} {L : List Bool} (h : Marks had L) (id : Nat) : Marks (had ++ [(id : Int)]) (L.set id true) :=
  ⟨by simpa using h.1, fun i hi => by
    by_cases e : id = i
    · subst e
      rw [List.getElem?_set_self (by rw [h.1]; exact hi)]
      simp
    · rw [List.getElem?_set_ne e, h.2 i hi]
      simp [show ¬ (i : Int) = (id : Int) by omega]⟩
set_option maxHeartbeats 2000000 in
theorem walk (ids : List Int) (A : Option Addr) (c : Nat) (w : World) (hr : RdE 1 encI w A ids) (hz : ∀ x ∈ ids, (Lit.int .i64 x).wf = true) :
    Calls Try.prog 3 #[.slice A ids.length c] w fun e w' => e = .returned (.bool true) ∧ Below w.heap.size w w' := by
  have hmx := hr.1
  have HR := Lib.hid hr
  have HZ := Lib.hid hz
  clear hr hz
  obtain ⟨i0, hi, hzz⟩ := Option.map_eq_some_iff.1 info_bool
  simp only [Prod.mk.injEq] at hzz
  obtain ⟨hz0, hz1, hz2⟩ := hzz
  go_enter Try.func3, Try.ntmps3
  go_wp2_with (at_make; refine wpList_make_full _ rfl _ _ 26 rfl (w.heap.size + 1) 4 i0 (.bool false) 1 Try.underlying26 hi hz0 hz1 .i64 .i64 301 301 301 rfl rfl rfl rfl ?m1 ?m2 ?m3 ?_; (case m1 => rw [hz2]; decide); (case m2 => decide); (case m3 => simp); intro wm ho hg; have HO := Lib.hid ho; have HG := Lib.hid hg; clear ho hg)
  have hbm : Below w.heap.size w wm := (blw_alloc (Below.refl _ _) _).grown HG.out (by simp) (by simp)
  have m0 : wm.cell? ⟨w.heap.size, 0, none⟩ = some (.int .i64 0) := by rw [World.cell?_of_block (HG.out.block w.heap.size (by simp) (by simp))]; go_simp
  have m1 : wm.cell? ⟨w.heap.size, 1, none⟩ = some (.int .u64 0) := by rw [World.cell?_of_block (HG.out.block w.heap.size (by simp) (by simp))]; go_simp
  have n0 : wm.frozen? ⟨w.heap.size, 0, none⟩ = false := by rw [World.frozen?_of_block (HG.out.block w.heap.size (by simp) (by simp))]; go_simp
  have n1 : wm.frozen? ⟨w.heap.size, 1, none⟩ = false := by rw [World.frozen?_of_block (HG.out.block w.heap.size (by simp) (by simp))]; go_simp
  have hwm : w.heap.size + 1 < wm.heap.size := by
    have := (HO.out.lt (w.heap.size + 1) (by simp [Value.ownBlock])).2
    simpa using this
  have HBM := Lib.hid hbm
  clear hbm
  go_wp2
  go_loopw [5] (fun i wr => ∃ (k : Nat) (h : Int) (B : Nat) (had : List Int) (L : List Bool), k ≤ ids.length ∧ k ≤ 300 ∧ i = .int .i64 k ∧ h ≤ 300 ∧ InvW h B had ∧ (k = 0 ↔ had = []) ∧ Marks had L ∧ wr.ownsRow (w.heap.size + 1) 4 1 (.slice (some ⟨w.heap.size + 1, 0, none⟩) 301 301) 301 (L.map Value.bool) ∧ Below w.heap.size w wr ∧ w.heap.size + 1 < wr.heap.size ∧ wr.cell? ⟨w.heap.size, 0, none⟩ = some (.int .i64 h) ∧ wr.cell? ⟨w.heap.size, 1, none⟩ = some (.int .u64 (B : Int)) ∧ wr.frozen? ⟨w.heap.size, 0, none⟩ = false ∧ wr.frozen? ⟨w.heap.size, 1, none⟩ = false) (fun i _ => ids.length - (intOf i).toNat)
  case atStart =>
    refine ⟨0, 0, 0, [], List.replicate 301 false, by omega, by omega, rfl, by omega, inv_nil, by simp, marks_nil, ?_, HBM.out, hwm, m0, m1, n0, n1⟩
    have := HO.out
    rw [made_bool, show (w.alloc (.cells #[.int .i64 0, .int .u64 0] 25)).heap.size = w.heap.size + 1 by simp] at this
    exact this
  case round =>
    obtain ⟨k, h, B, had, L, hk, hk3, rfl, hh, hinv, hkn, hml, hown, hb, hlt1, c0, c1, f0, f1⟩ := hrel
    have hlt0 : w.heap.size < wr.heap.size := by omega
    have HB := Lib.hid hb
    have HI := Lib.hid hinv
    have HO := Lib.hid hown
    have HKN := Lib.hid hkn
    have HML := Lib.hid hml
    obtain ⟨h0, _⟩ := wmay_bd hinv.may
    clear hb hinv hown hkn hml
    by_cases hlt : k < ids.length ∧ k < 300
    · obtain ⟨l1, l2⟩ := hlt
      obtain ⟨ad, rfl, hc⟩ := (HR.out.below HB.out).at1 k l1 _ rfl
      obtain ⟨z0, z1⟩ := i64_bound (HZ.out ids[k] (List.getElem_mem l1))
      obtain ⟨p0, p1⟩ := pk_bound ids[k] 300 (by omega)
      have HP := Lib.hid (fun w => picked_any ids[k] 300 w z0 z1 (by omega))
      generalize ids[k] = x at *
      generalize pk x 300 = d at *
      obtain ⟨n, hn⟩ : ∃ n : Nat, (n : Int) = 1 + d := ⟨(1 + d).toNat, by omega⟩
      have hn1 : 1 ≤ n := by omega
      have hn2 : n ≤ 300 := by omega
      have hid2 : 1 + d = (n : Int) := hn.symm
      clear hn
      go_wp2_with (first | (go_at_call 15; refine (HP.out _).mono ?_; rintro e w' ⟨rfl, rfl⟩) | fail)
      have HID := Lib.hid hid2
      clear hid2 hc
      by_cases hj : judgeI h B (n : Int) = 0
      · have HNX := Lib.hid (inv_take HI.out (n : Int) (by omega) (by omega) hj)
        have HT := Lib.hid (fun w => take_yes h B (n : Int) w HI.out.lt HI.out.may (by omega) (by omega) hj)
        have eH : takeH h (n : Int) ≤ 300 := by unfold takeH; split <;> omega
        generalize takeB h B (n : Int) = nb at *
        generalize takeH h (n : Int) = nh at *
        clear hj
        go_at_call 16
        refine (HT.out _).mono ?_
        rintro e w1 ⟨rfl, hb1⟩
        obtain ⟨bc, bf⟩ := bcell hb1
        have hz3 := hb1.size
        have HO1 := Lib.hid (own_after HO.out hb1)
        have HB1 := Lib.hid hb1
        clear hb1
        have lt1 : w.heap.size < w1.heap.size := by omega
        have lt2 : w.heap.size + 1 < w1.heap.size := by omega
        have g0 : w1.cell? ⟨w.heap.size, 0, none⟩ = some (.int .i64 h) := by rw [bc _ _ hlt0]; exact c0
        have g1 : w1.cell? ⟨w.heap.size, 1, none⟩ = some (.int .u64 (B : Int)) := by rw [bc _ _ hlt0]; exact c1
        have e0 : w1.frozen? ⟨w.heap.size, 0, none⟩ = false := by rw [bf _ _ hlt0]; exact f0
        have e1 : w1.frozen? ⟨w.heap.size, 1, none⟩ = false := by rw [bf _ _ hlt0]; exact f1
        have t0 : w1.cell? ⟨w.heap.size + 1, n, none⟩ = some (.bool (decide ((n : Int) ∈ had))) := by
          rw [HO1.out.cellAt n (by omega), List.getElem?_map, HML.out.2 n (by omega)]; rfl
        have t1 : w1.frozen? ⟨w.heap.size + 1, n, none⟩ = false := HO1.out.frozenAt n
        have hn301 : (n : Int) < 301 := by omega
        have hn0 : (0 : Int) ≤ (n : Int) := by omega
        clear bc bf c0 c1 f0 f1
        go_wp2
        go_roundw
        case rel =>
          refine ⟨k + 1, nh, nb, had ++ [(n : Int)], L.set n true, by omega, by omega, by go_num, eH, HNX.out, by simp, marks_add HML.out n, ?_, ?_, by simp; omega, ?_, ?_, ?_, ?_⟩
          · have h1 := (ownsRow_setCell_below (ownsRow_setCell_below HO1.out (a := ⟨w.heap.size, 0, none⟩) (by simp) (.int .i64 nh)) (a := ⟨w.heap.size, 1, none⟩) (by simp) (.int .u64 (nb : Int))).stored n (.bool true)
            have h2 := h1.1
            rw [← List.map_set] at h2
            exact h2.alloc _
          · have hW := below_then HB.out HB.out.size HB1.out
            repeat (first | with_reducible exact hW | refine blw_alloc ?_ _ | refine Below.setCell ?_ (by first | exact Nat.le_refl _ | exact Nat.le_succ _) _)
          all_goals go_simp
        case measure => simp [intOf]; omega
      · have HT := Lib.hid (fun w => take_no h B (n : Int) w HI.out.lt HI.out.may (by omega) (by omega) hj)
        have hj' : (judgeI h B (n : Int) == 0) = false := beq_eq_false_iff_ne.mpr hj
        have hne : had ≠ [] := by
          intro e
          subst e
          have hz := inv_empty HI.out
          have := judge_inv HI.out (n : Int)
          rw [if_neg (by omega), if_neg (by simp)] at this
          exact hj this
        have HNE := Lib.hid hne
        generalize judgeI h B (n : Int) = jj at *
        clear hj hne
        go_at_call 16
        refine (HT.out _).mono ?_
        rintro e w1 ⟨rfl, hb1⟩
        obtain ⟨bc, bf⟩ := bcell hb1
        have hz3 := hb1.size
        have HO1 := Lib.hid (own_after HO.out hb1)
        have HB1 := Lib.hid hb1
        clear hb1
        have lt1 : w.heap.size < w1.heap.size := by omega
        have g0 : w1.cell? ⟨w.heap.size, 0, none⟩ = some (.int .i64 h) := by rw [bc _ _ hlt0]; exact c0
        have g1 : w1.cell? ⟨w.heap.size, 1, none⟩ = some (.int .u64 (B : Int)) := by rw [bc _ _ hlt0]; exact c1
        have e0 : w1.frozen? ⟨w.heap.size, 0, none⟩ = false := by rw [bf _ _ hlt0]; exact f0
        have e1 : w1.frozen? ⟨w.heap.size, 1, none⟩ = false := by rw [bf _ _ hlt0]; exact f1
        clear bc bf c0 c1 f0 f1
        go_wp2
        go_roundw
        case rel =>
          refine ⟨k + 1, h, B, had, L, by omega, by omega, by go_num, hh, HI.out, ⟨fun h => by omega, fun h => absurd h HNE.out⟩, HML.out, HO1.out.alloc _, blw_alloc (below_then HB.out HB.out.size HB1.out) _, by simp; omega, ?_, ?_, ?_, ?_⟩
          all_goals go_simp
        case measure => simp [intOf]; omega
    · have hU := used_filt HI.out hh
      have hempty : k = 0 → filt h had 300 = [] := fun e => by
        have hn := HKN.out.1 e
        subst hn
        have : ∀ n, filt h [] n = [] := by
          intro n
          induction n with
          | zero => rfl
          | succ n ih => simp [filt, ih, near]
        exact this 300
      have hfull : ¬ k = 0 → filt h had 300 ≠ [] := fun e hf => by
        rcases top_in HI.out (fun x => e (HKN.out.2 x)) with a | a
        · rw [hf] at a; simp at a
        · omega
      have hki : k = 0 ↔ ids.length = 0 := by omega
      have HE := Lib.hid hempty
      have HF := Lib.hid hfull
      have HK := Lib.hid hki
      have HUS := Lib.hid (fun w => used_any h B w HI.out.may HI.out.lt)
      rw [hU] at HUS
      clear hempty hfull hki hU
      obtain ⟨U, hUU⟩ : ∃ U, U = filt h had 300 := ⟨_, rfl⟩
      rw [← hUU] at HUS HE HF
      have HUU := Lib.hid hUU
      clear hUU
      by_cases l1 : k < ids.length
      all_goals
        go_wp2_with (fail)
        go_at_call 17
        refine (HUS.out _).mono ?_
        rintro e w2 ⟨A2, c2, rfl, ho2, hb2⟩
        obtain ⟨A3, c3, he, hrd2⟩ := own_read (enc := encI) (fun _ => rfl) (by decide) ho2
        cases he
        have HRD := Lib.hid hrd2
        have HM2 := Lib.hid (own_after HO.out hb2)
        have HB2 := Lib.hid hb2
        have d0 : w2.cell? ⟨w.heap.size, 0, none⟩ = some (.int .i64 h) := by rw [hb2.cell (p := ⟨w.heap.size, 0, none⟩) hlt0]; exact c0
        clear ho2 hb2 hrd2 c0 c1 f0 f1
        go_wp2
        go_loop [11, 12] (fun kv iv => ∃ n : Nat, n ≤ 300 ∧ iv = .int .i64 ((n : Int) + 1) ∧ kv = .int .i64 (((filt h had n).length : Nat) : Int)) (fun _ iv => (301 - intOf iv).toNat)
        case atStart => exact ⟨0, by omega, rfl, rfl⟩
        case round =>
          obtain ⟨n, hn, rfl, rfl⟩ := hrel
          have hql : (filt h had n).length ≤ 300 := Nat.le_trans (filt_len h had n) hn
          by_cases hlt : n < 300
          · have hst : filt h had (n + 1) = filt h had n ++ (if near h had ((n : Int) + 1) then [(n : Int) + 1] else []) := rfl
            have HST := Lib.hid hst
            have t0 : w2.cell? ⟨w.heap.size + 1, n + 1, none⟩ = some (.bool (decide ((n : Int) + 1 ∈ had))) := by
              rw [HM2.out.cellAt (n + 1) (by omega), List.getElem?_map, HML.out.2 (n + 1) (by omega)]; rfl
            have hn0 : (0 : Int) ≤ (n : Int) + 1 := by omega
            have hn1 : (n : Int) + 1 < 301 := by omega
            have hn2 : (n : Int) + 1 ≤ 300 := by omega
            clear hst
            by_cases hin : (n : Int) + 1 ∈ had
            · rw [decide_eq_true hin] at t0
              by_cases hfar : (n : Int) + 1 > h - 64
              · have hnear : near h had ((n : Int) + 1) = true := by unfold near; simp [hin, hfar]
                have hat := filt_at h had n hlt hnear
                rw [← HUU.out] at hat
                obtain ⟨hq, hqv⟩ := List.getElem?_eq_some_iff.1 hat
                obtain ⟨bd, hbe, hd⟩ := HRD.out.at1 _ hq _ rfl
                subst hbe
                rw [hqv] at hd
                have HNR := Lib.hid hnear
                generalize hqq : (filt h had n).length = q at *
                have HQQ := Lib.hid hqq
                clear hnear hat hqv hqq hin
                have hqi : (q : Int) < (U.length : Int) := by omega
                have hq0 : (0 : Int) ≤ (q : Int) := by omega
                go_wp2
                go_round
                case rel => exact ⟨n + 1, by omega, by go_num, by rw [HST.out, HNR.out, if_pos rfl, List.length_append, HQQ.out]; go_num⟩
                case measure => simp [intOf]; omega
              · have hnear : near h had ((n : Int) + 1) = false := by unfold near; simp [hfar]
                have HNR := Lib.hid hnear
                clear hnear hin
                go_wp2
                go_round
                case rel => exact ⟨n + 1, by omega, by go_num, by rw [HST.out, HNR.out]; simp⟩
                case measure => simp [intOf]; omega
            · rw [decide_eq_false hin] at t0
              have hnear : near h had ((n : Int) + 1) = false := by unfold near; simp [hin]
              have HNR := Lib.hid hnear
              clear hnear hin
              go_wp2
              go_round
              case rel => exact ⟨n + 1, by omega, by go_num, by rw [HST.out, HNR.out]; simp⟩
              case measure => simp [intOf]; omega
          · obtain rfl : n = 300 := by omega
            rw [← HUU.out]
            have e1 : (((U.length : Nat) : Int) == ((U.length : Nat) : Int)) = true := beq_iff_eq.mpr rfl
            have e2 : (((ids.length : Nat) : Int) == 0) = (((U.length : Nat) : Int) == 0) := by
              rw [Bool.eq_iff_iff]
              simp only [beq_iff_eq]
              constructor
              · intro h1
                have := HE.out (HK.out.2 (by omega))
                rw [this]; rfl
              · intro h1
                apply Decidable.byContradiction
                intro h2
                have h3 := HF.out (fun x => h2 (by have := HK.out.1 x; omega))
                exact h3 (List.eq_nil_of_length_eq_zero (by omega))
            have HE2 := Lib.hid e2
            clear e2
            go_wp2
            go_ret
            exact ⟨ret_bool (by rw [HE2.out]; simp), below_then HB.out HB.out.size HB2.out⟩
end Go.Proofs.Ytjlihpbnhojdgaa.WindowKnows
