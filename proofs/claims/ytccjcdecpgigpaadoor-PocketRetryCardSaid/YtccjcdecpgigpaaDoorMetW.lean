/- Contracts of meter.Words, meter.Read. -/
import Derived.Test.YtccjcdecpgigpaaDoorMay
import Derived.Test.YtccjcdecpgigpaaDoorCell
import Derived.Test.YtccjcdecpgigpaaDoorApp
import Derived.Laws.OwnMore
import Derived.IntWalk
import Derived.Deep.RegionHeld3
namespace Go.Proofs.YtccjcdecpgigpaaDoor.Met
open Go.RowKit Go.Proofs.YtccjcdecpgigpaaDoor.Base Go.Proofs.YtccjcdecpgigpaaDoor.Win Go.Proofs.YtccjcdecpgigpaaDoor.Cell
set_option linter.unusedVariables false
set_option linter.unusedSimpArgs false
set_option maxRecDepth 20000
def u32 (n : Nat) : UInt32 := UInt32.ofNat n
theorem u32_nat (n : Nat) (h : n < 4294967296) : (u32 n).toNat = n := by
  unfold u32
  rw [UInt32.toNat_ofNat']
  exact Nat.mod_eq_of_lt h
def flagsN (m : Mt) : Nat := m.lock.toNat * 16777216 + m.bad.toNat * 65536 + m.rev.toNat * 256 + m.me.toNat
def wordsL (m : Mt) : List UInt32 := [u32 m.cr.toNat, u32 (flagsN m), u32 m.wh.toNat, u32 (m.wb % 4294967296), u32 (m.wb / 4294967296)]
theorem or_flags (l b r e : Nat) (h1 : l ≤ 255) (h2 : b ≤ 255) (h3 : r ≤ 255) (h4 : e ≤ 255) :
    bits .or .u32 (bits .or .u32 (bits .or .u32 ((l : Int) * 16777216) ((b : Int) * 65536)) ((r : Int) * 256)) (e : Int) = ((l * 16777216 + b * 65536 + r * 256 + e : Nat) : Int) := by
  have a1 := u32_or_nat (l * 16777216) (b * 65536) (show l * 16777216 < 4294967296 by omega) (show b * 65536 < 4294967296 by omega)
  rw [nat_join 24 _ _ (show _ % 16777216 = 0 by omega) (show _ < 16777216 by omega)] at a1
  have e1 : ((l * 16777216 : Nat) : Int) = (l : Int) * 16777216 := Int.natCast_mul _ _
  have e2 : ((b * 65536 : Nat) : Int) = (b : Int) * 65536 := Int.natCast_mul _ _
  rw [e1, e2] at a1
  rw [a1]
  have a2 := u32_or_nat (l * 16777216 + b * 65536) (r * 256) (by omega) (by omega)
  rw [nat_join 16 _ _ (show _ % 65536 = 0 by omega) (show _ < 65536 by omega)] at a2
  have e3 : ((r * 256 : Nat) : Int) = (r : Int) * 256 := Int.natCast_mul _ _
  rw [e3] at a2
  rw [a2]
  have a3 := u32_or_nat (l * 16777216 + b * 65536 + r * 256) e (by omega) (by omega)
  rw [nat_join 8 _ _ (show _ % 256 = 0 by omega) (show _ < 256 by omega)] at a3
  exact a3
theorem or_flagsI (l b r e : Int) (h1 : 0 ≤ l ∧ l ≤ 255) (h2 : 0 ≤ b ∧ b ≤ 255) (h3 : 0 ≤ r ∧ r ≤ 255) (h4 : 0 ≤ e ∧ e ≤ 255) :
    bits .or .u32 (bits .or .u32 (bits .or .u32 (l * 16777216) (b * 65536)) (r * 256)) e = ((l.toNat * 16777216 + b.toNat * 65536 + r.toNat * 256 + e.toNat : Nat) : Int) := by
  have := or_flags l.toNat b.toNat r.toNat e.toNat (by omega) (by omega) (by omega) (by omega)
  rw [show (l.toNat : Int) = l by omega, show (b.toNat : Int) = b by omega, show (r.toNat : Int) = r by omega, show (e.toNat : Int) = e by omega] at this
  exact this
set_option maxHeartbeats 1000000 in
theorem words_no (m : Mt) (w : World) (ok : m.ok) (hm : mmay m = false) : Calls Tryd.prog 45 #[.agg m.vals] w fun e w' => e = .returned (.tuple #[.slice none 0 0, .int .i64 5]) ∧ Below w.heap.size w w' := by
  have hq := fun w => mmay_any m w ok
  rw [hm] at hq
  have HM := Lib.hid hq
  clear hq hm
  obtain ⟨me, rev, cr, wh, wb, bad, lock⟩ := m
  unfold Mt.vals at *
  simp only at *
  go_enter Tryd.func45, Tryd.ntmps45
  go_wp2_with (fail)
  go_at_call 74
  refine (HM.out _).mono ?_
  rintro e w1 ⟨rfl, hb⟩
  have HB := Lib.hid (below_then' (blw_alloc (Below.refl _ _) _) hb)
  clear hb
  go_wp2
  go_ret2
  exact ⟨rfl, HB.out⟩
set_option maxHeartbeats 1000000 in
theorem words_yes (m : Mt) (w : World) (ok : m.ok) (hm : mmay m = true) : Calls Tryd.prog 45 #[.agg m.vals] w fun e w' => ∃ A c, e = .returned (.tuple #[.slice A (wordsL m).length c, .int .i64 0]) ∧ OwW w.heap.size w' A c (wordsL m) ∧ Below w.heap.size w w' := by
  have hq := fun w => mmay_any m w ok
  rw [hm] at hq
  have HM := Lib.hid hq
  unfold mmay at hm
  simp only [Bool.and_eq_true, decide_eq_true_eq] at hm
  obtain ⟨hc1, hc2, hwm⟩ := hm
  obtain ⟨q0, q1⟩ := wmay_bd hwm
  have wl := ok.2.1.2
  obtain ⟨⟨a0, a1⟩, ⟨b0, b1⟩, c0, c1⟩ := hc1
  obtain ⟨⟨d0, d1⟩, ⟨e0, e1⟩, hbl⟩ := hc2
  have hfl := or_flagsI m.lock m.bad m.rev m.me (by omega) (by omega) (by omega) (by omega)
  have hw2 : flagsN m < 4294967296 := by unfold flagsN; omega
  rw [show m.lock.toNat * 16777216 + m.bad.toNat * 65536 + m.rev.toNat * 256 + m.me.toNat = flagsN m from rfl] at hfl
  have hWL : (wordsL m).flatMap encW = [.int .u32 m.cr, .int .u32 (flagsN m : Int), .int .u32 m.wh, .int .u32 ((m.wb % 4294967296 : Nat) : Int), .int .u32 ((m.wb / 4294967296 : Nat) : Int)] := by
    unfold wordsL encW
    simp only [List.flatMap_cons, List.flatMap_nil, List.cons_append, List.nil_append]
    rw [u32_nat _ (by omega), u32_nat _ hw2, u32_nat _ (by omega), u32_nat _ (by omega), u32_nat _ (by omega), show (m.cr.toNat : Int) = m.cr by omega, show (m.wh.toNat : Int) = m.wh by omega]
  have HWL := Lib.hid hWL
  have hlen : (wordsL m).length = 5 := rfl
  unfold OwW
  rw [hlen, HWL.out]
  generalize flagsN m = fl at *
  obtain ⟨me, rev, cr, wh, wb, bad, lock⟩ := m
  unfold Mt.vals at *
  simp only at *
  clear hq hwm hbl hlen HWL hWL
  go_enter Tryd.func45, Tryd.ntmps45
  go_wp2_with (fail)
  go_at_call 74
  refine (HM.out _).mono ?_
  rintro e w1 ⟨rfl, hb⟩
  obtain ⟨bc, bf⟩ := bcell hb
  have hz1 := hb.size
  simp at hz1
  have HB := Lib.hid (below_then' (blw_alloc (Below.refl _ _) _) hb)
  clear hb
  have lt1 : w.heap.size < w1.heap.size := by omega
  go_wp2
  go_ret2
  have hs : HB.out.size = HB.out.size := rfl
  have hsz := HB.out.size
  have ho := World.ownsRow_lit (base := w.heap.size) (e := 93) (size := 1) w1 #[.int .u32 cr, .int .u32 (fl : Int), .int .u32 wh, .int .u32 ((wb : Int) % 4294967296), .int .u32 ((wb : Int) / 4294967296)] 5 hsz (by decide) rfl
  exact ⟨some ⟨w1.heap.size, 0, none⟩, 5, rfl, ho, blw_alloc HB.out _⟩
theorem add_pos (ad : Addr) (k : Nat) : ad.add (k + 1) = ⟨ad.block, ad.off + (k + 1), none⟩ := by unfold Addr.add; simp
/-- The meter that five words tell. -/
def readN (a b c d e : Nat) : Mt := ⟨(b : Int) % 256, (b : Int) / 256 % 256, (a : Int), (c : Int), d + e * 4294967296, (b : Int) / 65536 % 256, (b : Int) / 16777216⟩
theorem readN_ok (a b c d e : Nat) (h1 : a < 4294967296) (h0 : b < 4294967296) (h2 : c < 4294967296) (h3 : d < 4294967296) (h4 : e < 4294967296) : (readN a b c d e).ok := by
  unfold readN Mt.ok i64
  simp only
  refine ⟨⟨?_, ?_, ?_⟩, ⟨?_, ?_⟩, ?_, ?_⟩ <;> omega
theorem or_win (d e : Nat) (h1 : d < 4294967296) (h2 : e < 4294967296) : bits .or .u64 (d : Int) ((e : Int) * 4294967296) = ((d + e * 4294967296 : Nat) : Int) := by
  have a := u64_or_nat d (e * 4294967296) (by omega) (by omega)
  rw [Nat.or_comm, nat_join 32 _ _ (show e * 4294967296 % 4294967296 = 0 by omega) (show d < 4294967296 by omega)] at a
  rw [show ((e : Int) * 4294967296) = ((e * 4294967296 : Nat) : Int) from (Int.natCast_mul _ _).symm, a]
  omega
theorem wrap_u (n : Int) (h0 : 0 ≤ n) (h1 : n < 18446744073709551616) : IntKind.u64.wrap n = n := by
  rw [IntKind.wrap_u64]
  omega
def zeroM : Mt := ⟨0, 0, 0, 0, 0, 0, 0⟩
def readR (a b c d e : Nat) : Mt × Int := if mmay (readN a b c d e) then (readN a b c d e, 0) else (zeroM, 5)
set_option maxHeartbeats 4000000 in
theorem readN_any (a b c d e : Nat) (ad : Addr) (cap : Nat) (w : World) (ha : a < 4294967296) (hb : b < 4294967296) (hc : c < 4294967296) (hd : d < 4294967296) (he : e < 4294967296)
    (h0 : w.cell? ad = some (.int .u32 (a : Int))) (h1 : w.cell? ⟨ad.block, ad.off + 1, none⟩ = some (.int .u32 (b : Int))) (h2 : w.cell? ⟨ad.block, ad.off + 2, none⟩ = some (.int .u32 (c : Int)))
    (h3 : w.cell? ⟨ad.block, ad.off + 3, none⟩ = some (.int .u32 (d : Int))) (h4 : w.cell? ⟨ad.block, ad.off + 4, none⟩ = some (.int .u32 (e : Int))) :
    Calls Tryd.prog 56 #[.slice (some ad) 5 cap] w fun e' w' => e' = .returned (.tuple #[.agg (readR a b c d e).1.vals, .int .i64 (readR a b c d e).2]) ∧ Below w.heap.size w w' := by
  have hlt : ad.block < w.heap.size := World.block_lt_of_cell? w _ h0
  have h1a : ∀ o1 o2 o3, (((w.alloc o1).alloc o2).alloc o3).cell? ⟨ad.block, ad.off + 1, none⟩ = some (.int .u32 (b : Int)) := fun o1 o2 o3 => cell_old (cell_old (cell_old h1 _) _) _
  have hwin := or_win d e hd he
  have hcast : ((d + e * 4294967296 : Nat) : Int) = (d : Int) + (e : Int) * 4294967296 := by omega
  have hq := fun w => mmay_any (readN a b c d e) w (readN_ok a b c d e ha hb hc hd he)
  have e1 : IntKind.i64.wrap (a : Int) = (a : Int) := IntWalk.i64_in _ (by omega)
  have e2 : IntKind.i64.wrap (c : Int) = (c : Int) := IntWalk.i64_in _ (by omega)
  have e3 : IntKind.u64.wrap (d : Int) = (d : Int) := wrap_u _ (by omega) (by omega)
  have e4 : IntKind.u64.wrap (e : Int) = (e : Int) := wrap_u _ (by omega) (by omega)
  have e5 : IntKind.u64.wrap ((e : Int) * 4294967296) = (e : Int) * 4294967296 := wrap_u _ (by omega) (by omega)
  have hv : (readN a b c d e).vals = #[.int .i64 ((b : Int) % 256), .int .i64 ((b : Int) / 256 % 256), .int .i64 (a : Int), .int .i64 (c : Int), .int .u64 ((d : Int) + (e : Int) * 4294967296), .int .i64 ((b : Int) / 65536 % 256), .int .i64 ((b : Int) / 16777216)] := by
    unfold readN Mt.vals
    simp only [hcast]
  have hr : readR a b c d e = if mmay (readN a b c d e) then (readN a b c d e, 0) else (zeroM, 5) := rfl
  rw [hv] at hq
  cases hm : mmay (readN a b c d e)
  all_goals
    rw [hm] at hq hr
    simp only [if_true, if_false, Bool.false_eq_true] at hr
    rw [hr]
    have HQ := Lib.hid hq
    have HV := Lib.hid hv
    clear hq hv hm hr hcast
    go_enter Tryd.func56, Tryd.ntmps56
    go_wp2
    go_region_held3 (fun w' => w'.cell? ad = some (.int .u32 (a : Int)) ∧ w'.cell? ⟨ad.block, ad.off + 2, none⟩ = some (.int .u32 (c : Int)) ∧ w'.cell? ⟨ad.block, ad.off + 3, none⟩ = some (.int .u32 (d : Int)) ∧ w'.cell? ⟨ad.block, ad.off + 4, none⟩ = some (.int .u32 (e : Int))) (go_keep) (fail)
    clear e1 e2 e3 e4 e5 hwin h0 h2 h3 h4
    go_wp2
    refine wp_loop_rounds 5 ?_
    rw [rounds_succ]
    go_wp2_with (fail)
    rw [rounds_succ]
    go_wp2_with (fail)
    rw [rounds_succ]
    go_wp2_with (fail)
    rw [rounds_succ]
    go_wp2_with (fail)
    rw [rounds_succ]
    go_wp2_with (fail)
    go_at_call 74
    refine (HQ.out _).mono ?_
    rintro e' w1 ⟨rfl, hb⟩
    obtain ⟨bc, bf⟩ := bcell hb
    have hz1 := hb.size
    simp at hz1
    have hlt1 : w.heap.size < w1.heap.size := by omega
    have hlt2 : w.heap.size + 1 < w1.heap.size := by omega
    have HB := Lib.hid hb
    clear hb h1a
    have ag0 : w1.cell? ⟨w.heap.size, 0, none⟩ = some (.int .i64 0) := by rw [bc _ _ (by first | omega | (simp <;> omega))]; first | with_reducible assumption | go_simp
    have af0 : w1.frozen? ⟨w.heap.size, 0, none⟩ = false := by rw [bf _ _ (by first | omega | (simp <;> omega))]; first | with_reducible assumption | go_simp
    have ag1 : w1.cell? ⟨w.heap.size, 1, none⟩ = some (.int .i64 0) := by rw [bc _ _ (by first | omega | (simp <;> omega))]; first | with_reducible assumption | go_simp
    have af1 : w1.frozen? ⟨w.heap.size, 1, none⟩ = false := by rw [bf _ _ (by first | omega | (simp <;> omega))]; first | with_reducible assumption | go_simp
    have ag2 : w1.cell? ⟨w.heap.size, 2, none⟩ = some (.int .i64 0) := by rw [bc _ _ (by first | omega | (simp <;> omega))]; first | with_reducible assumption | go_simp
    have af2 : w1.frozen? ⟨w.heap.size, 2, none⟩ = false := by rw [bf _ _ (by first | omega | (simp <;> omega))]; first | with_reducible assumption | go_simp
    have ag3 : w1.cell? ⟨w.heap.size, 3, none⟩ = some (.int .i64 0) := by rw [bc _ _ (by first | omega | (simp <;> omega))]; first | with_reducible assumption | go_simp
    have af3 : w1.frozen? ⟨w.heap.size, 3, none⟩ = false := by rw [bf _ _ (by first | omega | (simp <;> omega))]; first | with_reducible assumption | go_simp
    have ag4 : w1.cell? ⟨w.heap.size, 4, none⟩ = some (.int .u64 0) := by rw [bc _ _ (by first | omega | (simp <;> omega))]; first | with_reducible assumption | go_simp
    have af4 : w1.frozen? ⟨w.heap.size, 4, none⟩ = false := by rw [bf _ _ (by first | omega | (simp <;> omega))]; first | with_reducible assumption | go_simp
    have ag5 : w1.cell? ⟨w.heap.size, 5, none⟩ = some (.int .i64 0) := by rw [bc _ _ (by first | omega | (simp <;> omega))]; first | with_reducible assumption | go_simp
    have af5 : w1.frozen? ⟨w.heap.size, 5, none⟩ = false := by rw [bf _ _ (by first | omega | (simp <;> omega))]; first | with_reducible assumption | go_simp
    have ag6 : w1.cell? ⟨w.heap.size, 6, none⟩ = some (.int .i64 0) := by rw [bc _ _ (by first | omega | (simp <;> omega))]; first | with_reducible assumption | go_simp
    have af6 : w1.frozen? ⟨w.heap.size, 6, none⟩ = false := by rw [bf _ _ (by first | omega | (simp <;> omega))]; first | with_reducible assumption | go_simp
    have bg0 : w1.cell? ⟨w.heap.size + 1, 0, none⟩ = some (.int .i64 ((b : Int) % 256)) := by rw [bc _ _ (by first | omega | (simp <;> omega))]; first | with_reducible assumption | go_simp
    have bf0 : w1.frozen? ⟨w.heap.size + 1, 0, none⟩ = false := by rw [bf _ _ (by first | omega | (simp <;> omega))]; first | with_reducible assumption | go_simp
    have bg1 : w1.cell? ⟨w.heap.size + 1, 1, none⟩ = some (.int .i64 ((b : Int) / 256 % 256)) := by rw [bc _ _ (by first | omega | (simp <;> omega))]; first | with_reducible assumption | go_simp
    have bf1 : w1.frozen? ⟨w.heap.size + 1, 1, none⟩ = false := by rw [bf _ _ (by first | omega | (simp <;> omega))]; first | with_reducible assumption | go_simp
    have bg2 : w1.cell? ⟨w.heap.size + 1, 2, none⟩ = some (.int .i64 (a : Int)) := by rw [bc _ _ (by first | omega | (simp <;> omega))]; first | with_reducible assumption | go_simp
    have bf2 : w1.frozen? ⟨w.heap.size + 1, 2, none⟩ = false := by rw [bf _ _ (by first | omega | (simp <;> omega))]; first | with_reducible assumption | go_simp
    have bg3 : w1.cell? ⟨w.heap.size + 1, 3, none⟩ = some (.int .i64 (c : Int)) := by rw [bc _ _ (by first | omega | (simp <;> omega))]; first | with_reducible assumption | go_simp
    have bf3 : w1.frozen? ⟨w.heap.size + 1, 3, none⟩ = false := by rw [bf _ _ (by first | omega | (simp <;> omega))]; first | with_reducible assumption | go_simp
    have bg4 : w1.cell? ⟨w.heap.size + 1, 4, none⟩ = some (.int .u64 ((d : Int) + (e : Int) * 4294967296)) := by rw [bc _ _ (by first | omega | (simp <;> omega))]; first | with_reducible assumption | go_simp
    have bf4 : w1.frozen? ⟨w.heap.size + 1, 4, none⟩ = false := by rw [bf _ _ (by first | omega | (simp <;> omega))]; first | with_reducible assumption | go_simp
    have bg5 : w1.cell? ⟨w.heap.size + 1, 5, none⟩ = some (.int .i64 ((b : Int) / 65536 % 256)) := by rw [bc _ _ (by first | omega | (simp <;> omega))]; first | with_reducible assumption | go_simp
    have bf5 : w1.frozen? ⟨w.heap.size + 1, 5, none⟩ = false := by rw [bf _ _ (by first | omega | (simp <;> omega))]; first | with_reducible assumption | go_simp
    have bg6 : w1.cell? ⟨w.heap.size + 1, 6, none⟩ = some (.int .i64 ((b : Int) / 16777216)) := by rw [bc _ _ (by first | omega | (simp <;> omega))]; first | with_reducible assumption | go_simp
    have bf6 : w1.frozen? ⟨w.heap.size + 1, 6, none⟩ = false := by rw [bf _ _ (by first | omega | (simp <;> omega))]; first | with_reducible assumption | go_simp
    clear bc bf
    go_wp2
    have hW := below_then' ((blw_alloc (blw_alloc (blw_alloc (Below.refl w.heap.size w) _) _) _).drew) HB.out
    first
    | (refine bodyPost_ret (v := .tuple #[.agg zeroM.vals, .int .i64 5]) (by simp [results, Tryd.results56, go_sem, Mt.vals, zeroM, ag0, ag1, ag2, ag3, ag4, ag5, ag6]) rfl ⟨rfl, ?_⟩
       repeat (first | with_reducible exact hW | refine Below.setCell ?_ (by first | exact Nat.le_refl _ | exact Nat.le_succ _) _))
    | (refine bodyPost_ret (v := .tuple #[.agg #[.int .i64 ((b : Int) % 256), .int .i64 ((b : Int) / 256 % 256), .int .i64 (a : Int), .int .i64 (c : Int), .int .u64 ((d : Int) + (e : Int) * 4294967296), .int .i64 ((b : Int) / 65536 % 256), .int .i64 ((b : Int) / 16777216)], .int .i64 0]) (by simp [results, Tryd.results56, go_sem, bg0, bg1, bg2, bg3, bg4, bg5, bg6, ag0, ag1, ag2, ag3, ag4, ag5, ag6]) rfl ⟨by rw [HV.out], ?_⟩
       repeat (first | with_reducible exact hW | refine Below.setCell ?_ (by first | exact Nat.le_refl _ | exact Nat.le_succ _) _))
end Go.Proofs.YtccjcdecpgigpaaDoor.Met
