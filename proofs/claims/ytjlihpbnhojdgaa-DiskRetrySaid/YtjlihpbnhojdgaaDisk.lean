/- Contracts of package disk: walk, Append. -/
import Derived.Test.YtjlihpbnhojdgaaDiskP
import Derived.Test.YtjlihpbnhojdgaaApp
import Derived.Test.YtjlihpbnhojdgaaCs
import Derived.Laws.OwnMore
namespace Go.Proofs.Ytjlihpbnhojdgaa.Cell
open Go.RowKit Go.Proofs.Ytjlihpbnhojdgaa.Base
set_option linter.unusedVariables false
set_option linter.unusedSimpArgs false
set_option maxRecDepth 20000
theorem none_any (v : Value) (w : World) : Calls Try.prog 56 #[v] w fun e w' => e = .returned (.tuple #[]) ∧ w = w' := by
  go_enter Try.func56, Try.ntmps56
  go_wp2
  go_end0
  exact ⟨rfl, rfl⟩
/-- The record at which the walk stands. -/
theorem Tape.at {c : List UInt32} {l : List (List UInt32)} (h : Tape c l) (k : Nat) (hk : k < l.length) :
    ∃ hp : (encL (l.take k)).length < c.length, (c[(encL (l.take k)).length]'hp).toNat = l[k].length ∧ (encL (l.take k)).length + 1 + l[k].length ≤ c.length ∧ 1 ≤ l[k].length ∧ l[k].length ≤ 64 ∧ (c.drop ((encL (l.take k)).length + 1)).take l[k].length = l[k] := by
  obtain ⟨a, b, d, e⟩ := h.head k hk
  obtain ⟨r0, r1⟩ := h.recs _ (List.getElem_mem hk)
  refine ⟨a, ?_, d, r0, r1, e⟩
  rw [← getD_at _ _ a, b, UInt32.toNat_ofNat']
  omega
theorem add_pos (ad : Addr) (p : Nat) : ad.add (p + 1) = ⟨ad.block, ad.off + (p + 1), none⟩ := by simp [Addr.add]
set_option maxHeartbeats 2000000 in
theorem walk_none (c : List UInt32) (l : List (List UInt32)) (A : Option Addr) (q : Nat) (w : World) (hc : RdE 1 encW w A c) (ht : Tape c l) (h0 : 1 ≤ c.length) (h1 : c.length ≤ 2048) (hq : c.length ≤ q) :
    Calls Try.prog 55 #[.slice A c.length q, .func (.func 56) #[] #[]] w fun e w' => e = .returned (.tuple #[.int .i64 ((encL l).length : Int), .int .i64 0]) ∧ w = w' := by
  obtain ⟨ad, rfl, _⟩ := hc.2 (by intro hn; subst hn; simp at h0)
  have HC := Lib.hid hc
  have HT := Lib.hid ht
  clear hc ht
  have e0 : decide ((c.length : Int) < 1) = false := decide_eq_false (by omega)
  have e1 : decide ((c.length : Int) > 2048) = false := decide_eq_false (by omega)
  have e2 : decide (c.length < 1) = false := decide_eq_false (by omega)
  have e3 : decide (2048 < c.length) = false := decide_eq_false (by omega)
  go_enter Try.func55, Try.ntmps55
  go_wp2_with (fail)
  go_loopg [6] l.length (fun m p wr => ∃ k : Nat, m + k = l.length ∧ p = .int .i64 ((encL (l.take k)).length : Int) ∧ w = wr)
  case atStart => exact ⟨0, by omega, rfl, rfl⟩
  case round =>
    obtain ⟨k, hk, rfl, rfl⟩ := hrel
    clear e0 e1 e2 e3
    by_cases hlt : k < l.length
    · obtain ⟨hp, hx, hn, x0, x1, _⟩ := HT.out.at k hlt
      have hnx := Lib.hid (encL_take l k hlt)
      obtain ⟨ad', hae, hcell⟩ := HC.out.at1 _ hp _ rfl
      cases hae
      rw [hx] at hcell
      clear hx
      generalize l[k].length = x at *
      generalize (encL (l.take k)).length = p at *
      have hpi : (p : Int) < (c.length : Int) := by omega
      have hp0 : (0 : Int) ≤ (p : Int) := by omega
      have t0 : ((x : Int) != 0) = true := by simp; omega
      have t0' : (x != 0) = true := by simp; omega
      have t1 : decide ((x : Int) > 64) = false := decide_eq_false (by omega)
      have t1' : decide (64 < x) = false := decide_eq_false (by omega)
      have t2 : decide ((x : Int) ≥ (c.length : Int) - (p : Int)) = false := decide_eq_false (by omega)
      have t3 : decide ((c.length : Int) - (p : Int) ≤ (x : Int)) = false := decide_eq_false (by omega)
      go_wp2_with (fail)
      go_at_call 56
      refine (none_any _ _).mono ?_
      rintro e w' ⟨rfl, rfl⟩
      go_wp2_with (fail)
      go_roundg (l.length - (k + 1))
      case measure => omega
      case rel => exact ⟨k + 1, by omega, by rw [hnx.out]; first | rfl | go_num | simp, rfl⟩
    · obtain rfl : k = l.length := by omega
      rw [List.take_length]
      have hst := HT.out.stop
      generalize hpp : (encL l).length = p at *
      by_cases hp : p < c.length
      · have hpi : (p : Int) < (c.length : Int) := by omega
        have hp0 : (0 : Int) ≤ (p : Int) := by omega
        obtain ⟨ad', hae, hcell⟩ := HC.out.at1 p hp _ rfl
        cases hae
        rw [getD_at _ _ hp] at hst
        rw [hst] at hcell
        have HPP := Lib.hid hpp
        clear hst hpp
        go_wp2
        go_ret2
        exact ⟨by rw [HPP.out]; rfl, rfl⟩
      · have hpi : ¬ (p : Int) < (c.length : Int) := by omega
        have HPP := Lib.hid hpp
        clear hst hpp
        go_wp2
        go_ret2
        exact ⟨by rw [HPP.out]; rfl, rfl⟩

theorem wr_ones (x : Wr) : ∀ u ∈ x.enc, u.oneCell' = true := by
  intro u hu
  simp [Wr.enc] at hu
  rcases hu with rfl | rfl <;> rfl
theorem append_full (c rec : List UInt32) (l : List (List UInt32)) (A D : Option Addr) (q d : Nat) (w : World) (hc : RdE 1 encW w A c) (ht : Tape c l) (h0 : 1 ≤ c.length) (h1 : c.length ≤ 2048) (hq : c.length ≤ q) (r0 : 1 ≤ rec.length) (r1 : rec.length ≤ 64)
    (hf : c.length < (encL l).length + 1 + rec.length) :
    Calls Try.prog 32 #[.slice A c.length q, .slice D rec.length d] w fun e w' => e = .returned (.tuple #[.slice none 0 0, .int .i64 16]) ∧ w = w' := by
  have HW := Lib.hid (walk_none c l A q w hc ht h0 h1 hq)
  have hfit := ht.fit
  clear hc ht
  generalize (encL l).length = p at *
  have e0 : decide ((rec.length : Int) < 1) = false := decide_eq_false (by omega)
  have e1 : decide ((rec.length : Int) > 64) = false := decide_eq_false (by omega)
  have e2 : decide (rec.length < 1) = false := decide_eq_false (by omega)
  have e3 : decide (64 < rec.length) = false := decide_eq_false (by omega)
  have e4 : (c.length : Int) < (p : Int) + 1 + (rec.length : Int) := by omega
  go_enter Try.func32, Try.ntmps32
  go_wp2_with (fail)
  go_at_call 55
  refine HW.out.mono ?_
  rintro e w' ⟨rfl, rfl⟩
  go_wp2
  go_ret2
  exact ⟨rfl, rfl⟩
set_option maxHeartbeats 2000000 in
theorem append_yes (c rec : List UInt32) (l : List (List UInt32)) (A D : Option Addr) (q d : Nat) (w : World) (hc : RdE 1 encW w A c) (hr : RdE 1 encW w D rec) (ht : Tape c l) (h0 : 1 ≤ c.length) (h1 : c.length ≤ 2048) (hq : c.length ≤ q) (r0 : 1 ≤ rec.length) (r1 : rec.length ≤ 64)
    (hf : (encL l).length + 1 + rec.length ≤ c.length) :
    Calls Try.prog 32 #[.slice A c.length q, .slice D rec.length d] w fun e w' => ∃ B p, e = .returned (.tuple #[.slice B (appendW c.length (encL l).length rec).length p, .int .i64 0]) ∧ OwWr w.heap.size w' B p (appendW c.length (encL l).length rec) ∧ Below w.heap.size w w' := by
  have HW := Lib.hid (walk_none c l A q w hc ht h0 h1 hq)
  have HR := Lib.hid hr
  clear hc ht hr
  generalize (encL l).length = p at *
  have hap : appendW c.length p rec = recW (p + 1) rec ++ (if p + 1 + rec.length < c.length then [⟨p + 1 + rec.length, 0⟩] else []) ++ [⟨p, UInt32.ofNat rec.length⟩] := rfl
  rw [hap]
  obtain ⟨mid, hmid⟩ : ∃ m : List Wr, m = if p + 1 + rec.length < c.length then [⟨p + 1 + rec.length, 0⟩] else [] := ⟨_, rfl⟩
  rw [← hmid]
  have HMID := Lib.hid hmid
  clear hap hmid
  have e0 : decide ((rec.length : Int) < 1) = false := decide_eq_false (by omega)
  have e1 : decide ((rec.length : Int) > 64) = false := decide_eq_false (by omega)
  have e2 : decide (rec.length < 1) = false := decide_eq_false (by omega)
  have e3 : decide (64 < rec.length) = false := decide_eq_false (by omega)
  have e4 : (p : Int) + 1 + (rec.length : Int) ≤ (c.length : Int) := by omega
  go_enter Try.func32, Try.ntmps32
  go_wp2_with (fail)
  go_at_call 55
  refine HW.out.mono ?_
  rintro e w' ⟨rfl, rfl⟩
  go_wp2_with (fail)
  go_loopg [9, 39] rec.length (fun n b i wr => ∃ k : Nat, n + k = rec.length ∧ i = .int .i64 k ∧ wr.ownsRow w.heap.size 89 2 b k ((recW (p + 1) (rec.take k)).flatMap Wr.enc) ∧ Below w.heap.size w wr)
  case atStart => exact ⟨0, by omega, rfl, World.ownsRow_nil _ _ _ _, Below.refl _ _⟩
  case round =>
    obtain ⟨k, hk, rfl, hown, hbl⟩ := hrel
    have HO := Lib.hid hown
    have HB := Lib.hid hbl
    clear hown hbl e0 e1 e2 e3
    by_cases hlt : k < rec.length
    · obtain ⟨ad, rfl, hc0⟩ := (HR.out.below HB.out).at1 k hlt _ rfl
      have hs := Lib.hid (List.take_succ_eq_append_getElem hlt)
      have hki : (k : Int) < (rec.length : Int) := by omega
      have hk0 : (0 : Int) ≤ (k : Int) := by omega
      generalize hx : rec[k] = x at *
      clear hx
      go_wp2_with (at_builtin; refine app1 (w0 := w) w.heap.size rfl (.tmp 44) (.tmp 51) 69 89 (.agg #[.int .i64 0, .int .u32 0]) 2 16 rfl Try.underlying69 info_wr rfl (by decide) (by decide) _ _ _ [.int .i64 ((p : Int) + 1 + (k : Int)), .int .u32 (x.toNat : Int)] rfl rfl rfl ?c1 HO.out HB.out HB.out.size ?c2 ?_; (case c1 => intro u hu; simp at hu; rcases hu with rfl | rfl <;> rfl); (case c2 => omega); intro v1 w2 ho1 hb1 _ _)
      go_roundg (rec.length - (k + 1))
      case measure => omega
      case rel =>
        refine ⟨k + 1, by omega, by go_num, ?_, hb1⟩
        rw [hs.out, recW_snoc]
        have e : (List.take k rec).length = k := by simp; omega
        rw [e, List.flatMap_append]
        have e2 : ([⟨p + 1 + k, x⟩] : List Wr).flatMap Wr.enc = [.int .i64 ((p : Int) + 1 + (k : Int)), .int .u32 (x.toNat : Int)] := by simp [Wr.enc]
        rw [e2]
        exact ho1
    · obtain rfl : k = rec.length := by omega
      have HO2 := Lib.hid (show wr.ownsRow w.heap.size 89 2 u9 rec.length ((recW (p + 1) rec).flatMap Wr.enc) by have := HO.out; rwa [List.take_of_length_le (Nat.le_refl _)] at this)
      have hwl : IntKind.u32.wrap (rec.length : Int) = (rec.length : Int) := by
        simp [IntKind.wrap, IntKind.bits, IntKind.signed]
        omega
      have hok : (UInt32.ofNat rec.length).toNat = rec.length := by
        rw [UInt32.toNat_ofNat']
        omega
      have HOK := Lib.hid hok
      clear hok HO
      by_cases hnx : p + 1 + rec.length < c.length
      · have hni : (p : Int) + 1 + (rec.length : Int) < (c.length : Int) := by omega
        have HNX := Lib.hid hnx
        clear hnx
        go_wp2_with (first | (at_builtin; refine app1 (w0 := w) w.heap.size rfl (.tmp 58) (.tmp 61) 69 89 (.agg #[.int .i64 0, .int .u32 0]) 2 16 rfl Try.underlying69 info_wr rfl (by decide) (by decide) _ _ _ [.int .i64 ((p : Int) + 1 + (rec.length : Int)), .int .u32 0] rfl rfl rfl ?c1 HO2.out HB.out HB.out.size ?c2 ?_; (case c1 => intro u hu; simp at hu; rcases hu with rfl | rfl <;> rfl); (case c2 => omega); intro v1 w2 ho1 hb1 _ _; have HO3 := Lib.hid ho1; have HB3 := Lib.hid hb1; clear ho1 hb1) | (at_builtin; refine app1 (w0 := w) w.heap.size rfl (.tmp 63) (.tmp 69) 69 89 (.agg #[.int .i64 0, .int .u32 0]) 2 16 rfl Try.underlying69 info_wr rfl (by decide) (by decide) _ _ _ [.int .i64 (p : Int), .int .u32 (rec.length : Int)] rfl rfl rfl ?c1 HO3.out HB3.out HB3.out.size ?c2 ?_; (case c1 => intro u hu; simp at hu; rcases hu with rfl | rfl <;> rfl); (case c2 => omega); intro v2 w3 ho1 hb1 _ _; obtain ⟨B, z, rfl, ho3⟩ := OwWr.of (xs := recW (p + 1) rec ++ [⟨p + 1 + rec.length, 0⟩] ++ [⟨p, UInt32.ofNat rec.length⟩]) ho1 (by simp [recW_len]) (by rw [List.flatMap_append, List.flatMap_append]; simp [Wr.enc]; omega); have HO4 := Lib.hid ho3; have HB4 := Lib.hid hb1; clear ho1 ho3 hb1))
        have hm := HMID.out
        rw [if_pos HNX.out] at hm
        subst hm
        go_ret2
        exact ⟨B, z, by simp, HO4.out, HB4.out⟩
      · have hni : (c.length : Int) ≤ (p : Int) + 1 + (rec.length : Int) := by omega
        have HNX := Lib.hid hnx
        clear hnx
        go_wp2_with (at_builtin; refine app1 (w0 := w) w.heap.size rfl (.tmp 63) (.tmp 69) 69 89 (.agg #[.int .i64 0, .int .u32 0]) 2 16 rfl Try.underlying69 info_wr rfl (by decide) (by decide) _ _ _ [.int .i64 (p : Int), .int .u32 (rec.length : Int)] rfl rfl rfl ?c1 HO2.out HB.out HB.out.size ?c2 ?_; (case c1 => intro u hu; simp at hu; rcases hu with rfl | rfl <;> rfl); (case c2 => omega); intro v2 w3 ho1 hb1 _ _; obtain ⟨B, z, rfl, ho3⟩ := OwWr.of (xs := recW (p + 1) rec ++ [] ++ [⟨p, UInt32.ofNat rec.length⟩]) ho1 (by simp [recW_len]) (by rw [List.flatMap_append, List.flatMap_append]; simp [Wr.enc]; omega); have HO4 := Lib.hid ho3; have HB4 := Lib.hid hb1; clear ho1 ho3 hb1)
        have hm := HMID.out
        rw [if_neg HNX.out] at hm
        subst hm
        go_ret2
        exact ⟨B, z, by simp, HO4.out, HB4.out⟩
end Go.Proofs.Ytjlihpbnhojdgaa.Cell
