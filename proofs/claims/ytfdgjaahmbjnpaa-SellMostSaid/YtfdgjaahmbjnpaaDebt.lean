/- Contracts of package debt, and of the laws' helpers owing, sameDebts. -/
import Derived.Test.YtfdgjaahmbjnpaaApp
import Derived.Deep.RegionHeld3
import Derived.Deep.AppendLies
namespace Go.Proofs.Ytfdgjaahmbjnpaa.Debt
open Go.RowKit Go.Proofs.Ytfdgjaahmbjnpaa.Base
set_option linter.unusedVariables false
set_option linter.unusedSimpArgs false
set_option maxRecDepth 20000

/-- Two whole numbers: a raw debt. -/
structure Ow where
  a : Int
  b : Int
def Ow.enc (x : Ow) : List Value := [.int .i64 x.a, .int .i64 x.b]
def Ow.ok (x : Ow) : Prop := (-9223372036854775808 ≤ x.a ∧ x.a ≤ 9223372036854775807) ∧ -9223372036854775808 ≤ x.b ∧ x.b ≤ 9223372036854775807
/-- A debt. -/
structure Db where
  a : Int
  b : Int
deriving DecidableEq
def Db.enc (x : Db) : List Value := [.int .i64 x.a, .int .i64 x.b]
def Db.ok (x : Db) : Prop := (0 ≤ x.a ∧ x.a ≤ 1000000000) ∧ 0 ≤ x.b ∧ x.b ≤ 10000
theorem db_len (x : Db) : x.enc.length = 2 := rfl
theorem info_db : (Try.prog.info? 122).map (fun i => (i.zero, i.size, i.bytes)) = some (some (.agg #[.int .i64 0, .int .i64 0]), 2, 16) := by kernel_rfl
def OwDb (base : Nat) (w : World) (A : Option Addr) (c : Nat) (xs : List Db) : Prop := w.ownsRow base 122 2 (.slice A xs.length c) xs.length (xs.flatMap Db.enc)
theorem OwDb.read {base : Nat} {w : World} {A : Option Addr} {c : Nat} {xs : List Db} (h : OwDb base w A c xs) : RdE 2 Db.enc w A xs := by
  obtain ⟨A1, c1, he, hr⟩ := own_read (enc := Db.enc) (fun _ => rfl) (by decide) h
  cases he
  exact hr
theorem OwDb.of {base : Nat} {w : World} {v : Value} {n : Nat} {cs : List Value} {xs : List Db} (h : w.ownsRow base 122 2 v n cs) (hn : n = xs.length) (hc : cs = xs.flatMap Db.enc) : ∃ A c, v = .slice A xs.length c ∧ OwDb base w A c xs := by
  subst hn hc
  obtain ⟨A, c, rfl, _⟩ := own_read (enc := Db.enc) (fun _ => rfl) (by decide) h
  exact ⟨A, c, rfl, h⟩
theorem OwDb.nil {base : Nat} {w : World} {A : Option Addr} {c : Nat} {xs : List Db} (h : OwDb base w A c xs) : A = none → xs = [] ∧ c = 0 := by
  intro ha
  subst ha
  rcases h.2 with ⟨h1, h2⟩ | ⟨g, cap, cur, h1, _⟩
  · simp at h1
    have := h1.1
    exact ⟨this, h1.2⟩
  · simp at h1

/-! ### owing -/
def owingL (l : List Ow) (most : Int) : List Db := (l.take 8).map fun x => ⟨pk x.a (most + 1), pk x.b 10001⟩
theorem owingL_len (l : List Ow) (most : Int) : (owingL l most).length ≤ 8 := by unfold owingL; simp; omega
theorem owingL_ok (l : List Ow) (most : Int) (h0 : 0 ≤ most) (h1 : most ≤ 1000000000) : ∀ x ∈ owingL l most, x.ok := by
  intro x hx
  obtain ⟨y, _, rfl⟩ := List.mem_map.1 hx
  have := pk_bound y.a (most + 1) (by omega)
  have := pk_bound y.b 10001 (by omega)
  unfold Db.ok
  simp only
  omega
theorem owing_any (l : List Ow) (most : Int) (L : Option Addr) (d : Nat) (w : World) (hl : RdE 2 Ow.enc w L l) (hk : ∀ x ∈ l, x.ok) (h0 : 0 ≤ most) (h1 : most ≤ 1000000000) :
    Calls Try.prog 34 #[.slice L l.length d, .int .i64 most] w fun e w' => ∃ B q, e = .returned (.slice B (owingL l most).length q) ∧ OwDb w.heap.size w' B q (owingL l most) ∧ Below w.heap.size w w' := by
  have hmx := hl.1
  have HL := Lib.hid hl
  have HK := Lib.hid hk
  clear hl hk
  obtain ⟨i0, hi0, hz0, hz1, hz2⟩ := info_parts info_db
  go_enter Try.func34, Try.ntmps34
  go_wp2
  go_loopw [5, 6] (fun b i wr => ∃ j : Nat, j ≤ l.length ∧ j ≤ 8 ∧ i = .int .i64 j ∧ wr.ownsRow w.heap.size 122 2 b (owingL (l.take j) most).length ((owingL (l.take j) most).flatMap Db.enc) ∧ Below w.heap.size w wr) (fun _ i _ => l.length - (intOf i).toNat)
  case atStart => exact ⟨0, by omega, by omega, rfl, World.ownsRow_nil _ _ _ _, Below.refl _ _⟩
  case round =>
    obtain ⟨j, hj, hj2, rfl, hown, hbl⟩ := hrel
    have hlen : (owingL (l.take j) most).length = j := by unfold owingL; simp; omega
    have HLN := Lib.hid hlen
    have HO := Lib.hid hown
    have HB := Lib.hid hbl
    clear hown hbl hlen
    by_cases hlt : j < l.length ∧ j < 8
    · obtain ⟨h1, h2⟩ := hlt
      obtain ⟨ad, hL, hc0, hc1⟩ := (HL.out.below HB.out).at2 j h1 _ _ rfl
      subst hL
      obtain ⟨⟨x0, x1⟩, x2, x3⟩ := HK.out l[j] (List.getElem_mem h1)
      have hj0 : (0 : Int) ≤ (j : Int) := by omega
      have hjl : (j : Int) < (l.length : Int) := by omega
      have hstep : owingL (l.take (j + 1)) most = owingL (l.take j) most ++ [⟨pk l[j].a (most + 1), pk l[j].b 10001⟩] := by
        unfold owingL
        rw [List.take_of_length_le (by simp; omega), List.take_of_length_le (l := l.take j) (by simp; omega), List.take_succ_eq_append_getElem h1, List.map_append]
        rfl
      have HS := Lib.hid hstep
      clear hstep
      have hne : u5.ownBlock ≠ some (ad.add (j * 2)).block := by
        intro h
        have h3 := (HO.out.lt _ h).1
        obtain ⟨ad', e', c', _⟩ := HL.out.at2 j h1 _ _ rfl
        cases e'
        have := World.block_lt_of_cell? w _ c'
        omega
      have hk := Lib.hid (show ∀ w4 w5 : World, w4.grownBy w5 u5.ownBlock → w4.cell? (ad.add (j * 2)) = some (.int .i64 l[j].a) → w4.cell? ⟨(ad.add (j * 2)).block, (ad.add (j * 2)).off + 1, none⟩ = some (.int .i64 l[j].b) → (ad.add (j * 2)).block < w4.heap.size →
          w5.cell? (ad.add (j * 2)) = some (.int .i64 l[j].a) ∧ w5.cell? ⟨(ad.add (j * 2)).block, (ad.add (j * 2)).off + 1, none⟩ = some (.int .i64 l[j].b) from
        fun w4 w5 hg g0 g1 hlt => ⟨(hg.cell_far _ hlt (Ne.symm hne)).trans g0, (hg.cell_far ⟨(ad.add (j * 2)).block, (ad.add (j * 2)).off + 1, none⟩ hlt (Ne.symm hne)).trans g1⟩)
      have hadlt := World.block_lt_of_cell? wr _ hc0
      have hadlt2 : ad.block < wr.heap.size := by rw [← add_block ad (j * 2)]; exact hadlt
      have hwr := HB.out.size
      have hwm := Lib.hid (show IntKind.i64.wrap (most + 1) = most + 1 from wrap64 _ (by omega) (by omega))
      have hA1 : (owingL (l.take j) most).length + 1 ≤ maxLen := by rw [HLN.out]; unfold maxLen; omega
      have hA2 : ((owingL (l.take j) most).length + 1) * 16 ≤ 140737488355328 := by rw [HLN.out]; omega
      go_wp2
      go_region_held3 (fun w' => w'.cell? (ad.add (j * 2)) = some (.int .i64 l[j].a) ∧ w'.cell? ⟨(ad.add (j * 2)).block, (ad.add (j * 2)).off + 1, none⟩ = some (.int .i64 l[j].b)) (first | go_keep | exact hk.out _ _ hgrow (by go_simp) (by go_simp) (by simp; omega)) (first | (go_at_call 10; (try rw [hwm.out]); refine (picked_any _ _ _ (by omega) (by omega) (by omega)).mono ?_; rintro e w' ⟨rfl, rfl⟩) | (refine step_append_lies _ (by rfl) _ _ _ (by rfl) w.heap.size 122 i0 _ 2 16 Try.underlying51 hi0 hz0 hz1 hz2 rfl (by omega) u5 _ _ (by rfl) ((HO.out.alloc _).drew) ⟨wr.heap.size, 0, none⟩ 1 1 [.int .i64 (pk l[j].a (most + 1)), .int .i64 (pk l[j].b 10001)] (by rfl) (by rfl) (World.news_of_block (cs := #[.int .i64 (pk l[j].a (most + 1)), .int .i64 (pk l[j].b 10001)]) (t := 122) (fr := (0, 0)) (heap_alloc_new wr _)) (by simp [Value.oneCell']) (by omega) hA1 hA2 (by simp; omega) (wr.heap.size + 1) (by simp) ?_; intro gg cap w5 hown1 hgrow hat hlt))
      go_wp2
      go_roundw
      case rel =>
        refine ⟨j + 1, by omega, by omega, by go_num, ?_, ((blw_alloc HB.out _).drew).grown hgrow ((blw_alloc HB.out _).drew).size (own_base HO.out)⟩
        rw [HS.out, List.flatMap_append, List.length_append]
        exact hown1
      case measure => simp [intOf]; omega
    · have hfin : owingL (l.take j) most = owingL l most := by
        unfold owingL
        rw [List.take_take]
        rcases Nat.lt_or_ge j l.length with h | h
        · have : j = 8 := by omega
          rw [this]
          rfl
        · rw [List.take_of_length_le (by omega), List.take_of_length_le (by omega)]
      have HF := Lib.hid hfin
      have hlen := HLN.out
      rw [hfin] at hlen HO
      obtain ⟨B, q, rfl, ho⟩ := OwDb.of (xs := owingL l most) HO.out rfl rfl
      have HO2 := Lib.hid ho
      clear hfin hlen ho
      by_cases hlt1 : j < l.length
      all_goals
        go_wp2
        go_ret
        exact ⟨B, q, rfl, HO2.out, HB.out⟩

/-! ### sameDebts -/































end Go.Proofs.Ytfdgjaahmbjnpaa.Debt
