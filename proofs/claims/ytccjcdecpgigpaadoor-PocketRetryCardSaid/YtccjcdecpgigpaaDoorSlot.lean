/- Contracts of package slot: Fresh, Load, Store. -/
import Derived.Test.YtccjcdecpgigpaaDoorSlotP
import Derived.Test.YtccjcdecpgigpaaDoorApp
import Derived.Test.YtccjcdecpgigpaaDoorCs
import Derived.Deep.RegionHeld3
namespace Go.Proofs.YtccjcdecpgigpaaDoor.Cell
open Go.RowKit Go.Proofs.YtccjcdecpgigpaaDoor.Base
set_option linter.unusedVariables false
set_option linter.unusedSimpArgs false
set_option maxRecDepth 20000
theorem size_yes (l n : Nat) (w : World) (h0 : 1 ≤ n) (h1 : n ≤ 64) (hl : l = 2 * (n + 1)) :
    Calls Tryd.prog 101 #[.int .i64 (l : Int), .int .i64 (n : Int)] w fun e w' => e = .returned (.bool true) ∧ w = w' := by
  subst hl
  have e1 : (1 : Int) ≤ (n : Int) := by omega
  have e2 : (n : Int) ≤ 64 := by omega
  have e3 : (((2 * (n + 1) : Nat) : Int) == 2 * ((n : Int) + 1)) = true := by simp
  go_enter Tryd.func101, Tryd.ntmps101
  go_wp2
  go_ret
  exact ⟨ret_bool (by simp), rfl⟩
theorem mark_any (c : List UInt32) (n s : Nat) (si : Int) (A : Option Addr) (q : Nat) (w : World) (hc : RdE 1 encW w A c) (hl : c.length = 2 * (n + 1)) (hn : n ≤ 64) (hs : s < 2) (hsi : si = (s : Int)) :
    Calls Tryd.prog 139 #[.agg #[.slice A c.length q, .int .i64 (n : Int)], .int .i64 si] w fun e w' => e = .returned (.int .u32 (markN c n s : Int)) ∧ Below w.heap.size w w' := by
  have hj : s * (n + 1) < c.length := by
    rcases (by omega : s = 0 ∨ s = 1) with rfl | rfl <;> omega
  obtain ⟨ad, rfl, hc0⟩ := hc.at1 (s * (n + 1)) hj _ rfl
  have hm : markN c n s = if 3 < (c[s * (n + 1)]'hj).toNat then 0 else (c[s * (n + 1)]'hj).toNat := by unfold markN; rw [getD_at _ _ hj]
  generalize c[s * (n + 1)]'hj = x at *
  have HM := Lib.hid hm
  have HL := Lib.hid hl
  have hc1 := cell_old hc0
  have hi2 : (0 : Int) ≤ ((s * (n + 1) : Nat) : Int) := by omega
  have hlen : ((s * (n + 1) : Nat) : Int) < (c.length : Int) := by omega
  clear hm hc hl hc0
  rcases (by omega : s = 0 ∨ s = 1) with rfl | rfl
  all_goals
    simp only [Nat.zero_mul, Nat.one_mul] at *
    subst hsi
    try rw [show ad.add 0 = ad by simp [Addr.add]] at hc1
    try rw [show ad.add (n + 1) = ⟨ad.block, ad.off + (n + 1), none⟩ by simp [Addr.add]] at hc1
    have hn0 : (0 : Int) ≤ (n : Int) + 1 := by omega
    by_cases h3 : 3 < x.toNat
    · have e1 : decide ((x.toNat : Int) > 3) = true := decide_eq_true (by omega)
      have e2 : decide (3 < x.toNat) = true := decide_eq_true h3
      have e3 : (3 : Int) < (x.toNat : Int) := by omega
      rw [HM.out, if_pos h3]
      have H3 := Lib.hid h3
      clear h3
      go_enter Tryd.func139, Tryd.ntmps139
      go_wp2
      go_ret
      exact ⟨rfl, blw_alloc (Below.refl _ _) _⟩
    · have e1 : decide ((x.toNat : Int) > 3) = false := decide_eq_false (by omega)
      have e2 : decide (3 < x.toNat) = false := decide_eq_false h3
      have e3 : (x.toNat : Int) ≤ 3 := by omega
      rw [HM.out, if_neg h3]
      have H3 := Lib.hid h3
      clear h3
      go_enter Tryd.func139, Tryd.ntmps139
      go_wp2
      go_ret
      exact ⟨rfl, blw_alloc (Below.refl _ _) _⟩
theorem next_any (m : Nat) (hm : m ≤ 3) (w : World) :
    Calls Tryd.prog 138 #[.int .u32 (m : Int)] w fun e w' => e = .returned (.int .u32 ((UInt32.ofNat (m % 3 + 1)).toNat : Int)) ∧ w = w' := by
  rw [ofNat_mark]
  rcases (by omega : m = 0 ∨ m = 1 ∨ m = 2 ∨ m = 3) with rfl | rfl | rfl | rfl
  all_goals
    go_enter Tryd.func138, Tryd.ntmps138
    go_wp2
    go_ret
    exact ⟨rfl, rfl⟩
set_option maxHeartbeats 2000000 in
theorem newer_yes (c : List UInt32) (n s : Nat) (A : Option Addr) (q : Nat) (w : World) (hc : RdE 1 encW w A c) (hl : c.length = 2 * (n + 1)) (hn : n ≤ 64) (hs : newerN (markN c n 0) (markN c n 1) = some s) :
    Calls Tryd.prog 102 #[.agg #[.slice A c.length q, .int .i64 (n : Int)]] w fun e w' => e = .returned (.int .i64 (s : Int)) ∧ Below w.heap.size w w' := by
  have hm : ∀ (si : Int) (W : World), (si = 0 ∨ si = 1) → Below w.heap.size w W → Calls Tryd.prog 139 #[.agg #[.slice A c.length q, .int .i64 (n : Int)], .int .i64 si] W fun e w' => e = .returned (.int .u32 (if si = 0 then (markN c n 0 : Int) else (markN c n 1 : Int))) ∧ Below W.heap.size W w' := by
    intro si W hsi h
    rcases hsi with rfl | rfl
    · exact mark_any c n 0 0 A q W (hc.below h) hl hn (by omega) rfl
    · exact mark_any c n 1 1 A q W (hc.below h) hl hn (by omega) rfl
  have HM := Lib.hid hm
  have h0 := mark_le c n 0
  have h1 := mark_le c n 1
  have HN := Lib.hid hs
  clear hs hc hl hm
  generalize markN c n 0 = a at *
  generalize markN c n 1 = b at *
  go_enter Tryd.func102, Tryd.ntmps102
  go_upto_region 1 with fail
  go_cut [3, 4] (fun x y wx => x = .int .u32 (a : Int) ∧ y = .int .u32 (b : Int) ∧ Below w.heap.size w wx)
  case first =>
    go_region_held3 (fun w' => w'.cell? ⟨w.heap.size, 0, none⟩ = some (.slice A c.length q) ∧ w'.cell? ⟨w.heap.size, 1, none⟩ = some (.int .i64 (n : Int))) (go_keep) (first | (go_at_call 139; refine (HM.out _ _ (by first | exact .inl rfl | exact .inr rfl) (by (repeat (first | with_reducible exact HB1.out | with_reducible exact Below.refl _ _ | with_reducible refine blw_alloc ?_ _ | with_reducible refine Below.drew ?_)))).mono ?_; rintro e v1 ⟨rfl, hb⟩; have HB1 : Hid (Below w.heap.size w v1) := Lib.hid (below_then' (by (repeat (first | with_reducible exact HB1.out | with_reducible exact Below.refl _ _ | with_reducible refine blw_alloc ?_ _ | with_reducible refine Below.drew ?_))) hb); have lv1 := HB1.out.size; have s0 : v1.cell? ⟨w.heap.size, 0, none⟩ = some (.slice A c.length q) := (by rw [hb.cell (p := ⟨_, _, none⟩) (by first | (simp; done) | (simp; omega))]; go_simp); have s1 : v1.cell? ⟨w.heap.size, 1, none⟩ = some (.int .i64 (n : Int)) := (by rw [hb.cell (p := ⟨_, _, none⟩) (by first | (simp; done) | (simp; omega))]; go_simp); have lw1 : w.heap.size < v1.heap.size := (by have := hb.size; (try simp at this); omega); clear hb))
    all_goals (try go_wp2_with fail)
    all_goals go_meet
    all_goals exact ⟨rfl, rfl, (by repeat (first | with_reducible exact HB1.out | with_reducible refine blw_alloc ?_ _ | with_reducible refine Below.drew ?_ | with_reducible refine blw_step ?_ _ | with_reducible refine Below.setCell (p := ⟨_, _, none⟩) ?_ (by first | exact Nat.le_refl _ | (simp; done) | (simp; omega) | omega) _))⟩
  case rest =>
    obtain ⟨rfl, rfl, hb⟩ := hcut
    have HB := Lib.hid hb
    clear hb HM
    rcases (by omega : a = 0 ∨ a = 1 ∨ a = 2 ∨ a = 3) with rfl | rfl | rfl | rfl <;> rcases (by omega : b = 0 ∨ b = 1 ∨ b = 2 ∨ b = 3) with rfl | rfl | rfl | rfl
    all_goals (have hs := HN.out; simp [newerN] at hs)
    all_goals
      subst hs
      go_wp2
      go_ret
      exact ⟨rfl, HB.out⟩

set_option maxHeartbeats 1000000 in
theorem load_any (c rec : List UInt32) (n : Nat) (A : Option Addr) (q : Nat) (w : World) (hc : RdE 1 encW w A c) (hh : Holds c n rec) (h0 : 1 ≤ n) (hn : n ≤ 64) (hq : c.length ≤ q) :
    Calls Tryd.prog 55 #[.slice A c.length q, .int .i64 (n : Int)] w fun e w' => ∃ B d, e = .returned (.tuple #[.slice B rec.length d, .int .i64 0]) ∧ OwW w.heap.size w' B d rec ∧ Below w.heap.size w w' := by
  obtain ⟨s, hs, _⟩ := hh.slot
  have hrd := load_holds hh hs
  have hl := hh.len
  have hrl := hh.rlen
  subst hrl
  obtain ⟨ad, rfl, _⟩ := hc.2 (by intro he; rw [he] at hl; simp at hl)
  have hs2 := newer_lt hs
  have HZ := Lib.hid (fun W => size_yes c.length rec.length W h0 hn hl)
  have HN := Lib.hid (fun W (h : Below w.heap.size w W) => newer_yes c rec.length s (some ad) q W (hc.below h) hl hn hs)
  have HR := Lib.hid (fun W (h : Below w.heap.size w W) => ((hc.below h).drop (s * (rec.length + 1) + 1)).take rec.length)
  have HL := Lib.hid hl
  rw [show (c.drop (s * (rec.length + 1) + 1)).take rec.length = rec from hrd] at HR
  have hlq : 2 * (rec.length + 1) ≤ q := by omega
  clear hc hh hs hrd hl
  go_enter Tryd.func55, Tryd.ntmps55
  go_wp2_with (fail)
  go_at_call 101
  refine (HZ.out _).mono ?_
  rintro e w' ⟨rfl, rfl⟩
  go_wp2_with (fail)
  go_at_call 102
  refine (HN.out _ (blw_alloc (Below.refl _ _) _)).mono ?_
  rintro e w1 ⟨rfl, hb⟩
  have HB1 : Hid (Below w.heap.size w w1) := Lib.hid (below_then' (blw_alloc (Below.refl _ _) _) hb)
  clear hb
  have h1 : ∀ x : UInt32, ∀ u ∈ encW x, u.oneCell' = true := by
    intro x u hu
    simp [encW] at hu
    subst hu
    rfl
  rcases (by omega : s = 0 ∨ s = 1) with rfl | rfl
  · have HR0 := Lib.hid (show RdE 1 encW w1 (some ⟨ad.block, ad.off + 1, none⟩) rec by have := HR.out w1 HB1.out; rwa [show ad.add ((0 * (rec.length + 1) + 1) * 1) = ⟨ad.block, ad.off + 1, none⟩ by simp [Addr.add]] at this)
    go_wp2_with (at_builtin; refine appN (w0 := w) (enc := encW) w.heap.size rfl (.const (.slice none 0 0)) (.tmp 31) 50 93 (.int .u32 0) 1 4 rfl Tryd.underlying50 info_u32 rfl (by decide) (by decide) _ 0 [] rec _ (q - 1) rfl ?hx (fun h => by cases h) (fun _ => rfl) HR0.out h1 (World.ownsRow_nil _ _ _ _) HB1.out HB1.out.size ?c1 ?_; (case hx => exact slice_len (by omega)); (case c1 => omega); intro v1 w2 ho2 hb2 _; obtain ⟨B, d, rfl, ho3⟩ := OwW.of (xs := rec) ho2 (by simp) (by simp); have HO3 := Lib.hid ho3; have HB2 := Lib.hid hb2; clear ho2 ho3 hb2)
    go_ret2
    exact ⟨B, d, rfl, HO3.out, HB2.out⟩
  · have HR0 := Lib.hid (show RdE 1 encW w1 (some (ad.add (rec.length + 1 + 1))) rec by have := HR.out w1 HB1.out; rwa [show (1 * (rec.length + 1) + 1) * 1 = rec.length + 1 + 1 by omega] at this)
    go_wp2_with (at_builtin; refine appN (w0 := w) (enc := encW) w.heap.size rfl (.const (.slice none 0 0)) (.tmp 31) 50 93 (.int .u32 0) 1 4 rfl Tryd.underlying50 info_u32 rfl (by decide) (by decide) _ 0 [] rec _ (q - (rec.length + 1 + 1)) rfl ?hx (fun h => by cases h) (fun _ => rfl) HR0.out h1 (World.ownsRow_nil _ _ _ _) HB1.out HB1.out.size ?c1 ?_; (case hx => exact slice_len (by omega)); (case c1 => omega); intro v1 w2 ho2 hb2 _; obtain ⟨B, d, rfl, ho3⟩ := OwW.of (xs := rec) ho2 (by simp) (by simp); have HO3 := Lib.hid ho3; have HB2 := Lib.hid hb2; clear ho2 ho3 hb2)
    go_ret2
    exact ⟨B, d, rfl, HO3.out, HB2.out⟩
end Go.Proofs.YtccjcdecpgigpaaDoor.Cell
