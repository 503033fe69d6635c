/- Contracts of package slot: Store, Fresh; of the laws' helper fitted. -/
import Derived.Test.YtccjcdecpgigpaaDoorSlot
import Derived.Laws.OwnMore
namespace Go.Proofs.YtccjcdecpgigpaaDoor.Cell
open Go.RowKit Go.Proofs.YtccjcdecpgigpaaDoor.Base
set_option linter.unusedVariables false
set_option linter.unusedSimpArgs false
set_option maxRecDepth 20000
theorem wr_one (x : Wr) : ∀ u ∈ x.enc, u.oneCell' = true := by
  intro u hu
  simp [Wr.enc] at hu
  rcases hu with rfl | rfl <;> rfl
set_option maxHeartbeats 2000000 in
theorem store_any (c old rec : List UInt32) (n s : Nat) (A D : Option Addr) (q d : Nat) (w : World) (hc : RdE 1 encW w A c) (hr : RdE 1 encW w D rec) (hh : Holds c n old) (hs : newerN (markN c n 0) (markN c n 1) = some s) (h0 : 1 ≤ n) (hn : n ≤ 64) (hrl : rec.length = n) :
    Calls Tryd.prog 99 #[.slice A c.length q, .slice D rec.length d] w fun e w' => ∃ B p, e = .returned (.tuple #[.slice B (storeW n s (markN c n s) rec).length p, .int .i64 0]) ∧ OwWr w.heap.size w' B p (storeW n s (markN c n s) rec) ∧ Below w.heap.size w w' := by
  have hl := hh.len
  subst hrl
  have hs2 := newer_lt hs
  have hmk := mark_le c rec.length s
  have HZ := Lib.hid (fun W => size_yes c.length rec.length W h0 hn hl)
  have HN := Lib.hid (fun W (h : Below w.heap.size w W) => newer_yes c rec.length s A q W (hc.below h) hl hn hs)
  have HM := Lib.hid (fun W (h : Below w.heap.size w W) => mark_any c rec.length s (s : Int) A q W (hc.below h) hl hn hs2 rfl)
  have HX := Lib.hid (fun W => next_any (markN c rec.length s) hmk W)
  have HR := Lib.hid hr
  have hst : storeW rec.length s (markN c rec.length s) rec = ⟨(1 - s) * (rec.length + 1), 0⟩ :: recW ((1 - s) * (rec.length + 1) + 1) rec ++ [⟨(1 - s) * (rec.length + 1), UInt32.ofNat (markN c rec.length s % 3 + 1)⟩] := rfl
  rw [hst]
  obtain ⟨at_, hat⟩ : ∃ a, a = (1 - s) * (rec.length + 1) := ⟨_, rfl⟩
  rw [← hat]
  have hat1 : ((1 : Int) - (s : Int)) * ((rec.length : Int) + 1) = (at_ : Int) := by
    rcases (by omega : s = 0 ∨ s = 1) with rfl | rfl
    · simp at hat
      subst hat
      simp
    · simp at hat
      subst hat
      simp
  have hat2 : at_ ≤ 65 := by
    rcases (by omega : s = 0 ∨ s = 1) with rfl | rfl
    · simp at hat
      omega
    · simp at hat
      omega
  generalize markN c rec.length s = mk at *
  generalize UInt32.ofNat (mk % 3 + 1) = nx at *
  have HAT := Lib.hid hat1
  clear hc hh hs hl hr hst hat hat1 hmk
  go_enter Tryd.func99, Tryd.ntmps99
  go_wp2_with (fail)
  go_at_call 101
  refine (HZ.out _).mono ?_
  rintro e w' ⟨rfl, rfl⟩
  go_wp2_with (fail)
  go_at_call 102
  refine (HN.out _ (blw_alloc (Below.refl _ _) _)).mono ?_
  rintro e w1 ⟨rfl, hb⟩
  have HB1 : Hid (Below w.heap.size w w1) := Lib.hid (below_then' (blw_alloc (Below.refl _ _) _) hb)
  have Cpw1 : Hid (Cs w1 w.heap.size [.slice A c.length q, .int .i64 (rec.length : Int)]) := Lib.hid ((show Cs _ w.heap.size _ from (by (repeat (first | (with_reducible refine Cs.new ?_; focus (first | rfl | (simp; done) | omega)) | with_reducible refine Cs.alloc ?_ _ | with_reducible refine Cs.drew ?_ | with_reducible refine Cs.drewN ?_ _ | (with_reducible refine Cs.other ?_ ?_ _; focus (first | omega | (simp; omega))) | with_reducible apply Cs.put)) <;> first | rfl | (simp; done))).after hb)
  clear hb
  have hs0 : decide ((s : Int) < 0) = false := decide_eq_false (by omega)
  have hs1 : (0 : Int) ≤ (s : Int) := by omega
  have wm : IntKind.i64.wrap ((at_ : Int)) = (at_ : Int) := by rw [IntKind.wrap_i64]; omega
  go_upto_region 8 with fail
  go_cut [9] (fun x wx => x = .int .i64 (at_ : Int) ∧ wx = w1)
  case first =>
    have ws1 : IntKind.i64.wrap (1 - (s : Int)) = 1 - (s : Int) := by rw [IntKind.wrap_i64]; omega
    have wn : IntKind.i64.wrap ((rec.length : Int) + 1) = (rec.length : Int) + 1 := by rw [IntKind.wrap_i64]; omega
    have wp : IntKind.i64.wrap ((1 - (s : Int)) * ((rec.length : Int) + 1)) = (at_ : Int) := by rw [HAT.out]; exact wm
    go_wp2_with fail
    go_meet
    exact ⟨rfl, rfl⟩
  case rest =>
    obtain ⟨rfl, rfl⟩ := hcut
    obtain ⟨w1, rfl⟩ : ∃ wo : World, wo = wc := ⟨_, rfl⟩
    have lw1 := Cpw1.out.1
    go_wp2_with (fail)
    go_loopg [10, 37] rec.length (fun n b i wr => ∃ k : Nat, n + k = rec.length ∧ i = .int .i64 k ∧ wr.ownsRow (w.heap.size + 1) 123 2 b (k + 1) ((⟨at_, 0⟩ :: recW (at_ + 1) (rec.take k)).flatMap Wr.enc) ∧ Below w.heap.size w wr ∧ Cs wr w.heap.size [.slice A c.length q, .int .i64 (rec.length : Int)])
    case atStart => exact ⟨0, by omega, rfl, own_box (cs := [.int .i64 (at_ : Int), .int .u32 0]) (MapKept.heap_alloc w1 _).1 (by omega) rfl, blw_alloc HB1.out _, Cpw1.out.alloc _⟩
    case round =>
      obtain ⟨k, hk, rfl, hown, hbl, hcp⟩ := hrel
      have HO := Lib.hid hown
      have HB := Lib.hid hbl
      have Cpwr := Lib.hid hcp
      have lwr := hcp.1
      clear hown hbl hcp HB1 Cpw1
      by_cases hlt : k < rec.length
      · obtain ⟨ad, rfl, hc0⟩ := (HR.out.below HB.out).at1 k hlt _ rfl
        have hs := Lib.hid (List.take_succ_eq_append_getElem hlt)
        have hki : (k : Int) < (rec.length : Int) := by omega
        have hk0 : (0 : Int) ≤ (k : Int) := by omega
        generalize hx : rec[k] = x at *
        clear hx
        go_wp2_with (at_builtin; refine app1 (w0 := wr) (w.heap.size + 1) rfl (.tmp 42) (.tmp 49) 53 123 (.agg #[.int .i64 0, .int .u32 0]) 2 16 rfl Tryd.underlying53 info_wr rfl (by decide) (by decide) _ _ _ [.int .i64 ((at_ : Int) + 1 + (k : Int)), .int .u32 (x.toNat : Int)] rfl rfl rfl ?c1 HO.out (Below.refl _ _) (by omega) ?c2 ?_; (case c1 => intro u hu; simp at hu; rcases hu with rfl | rfl <;> rfl); (case c2 => omega); intro v1 w2 ho1 hb1 _ _)
        go_roundg (rec.length - (k + 1))
        case measure => omega
        case rel =>
          refine ⟨k + 1, by omega, by go_num, ?_, HB.out.trans (hb1.mono (by omega)), Cpwr.out.below hb1 (by omega)⟩
          rw [hs.out, recW_snoc]
          have e : (List.take k rec).length = k := by simp; omega
          rw [e, show (⟨at_, 0⟩ :: (recW (at_ + 1) (List.take k rec) ++ [⟨at_ + 1 + k, x⟩]) : List Wr) = (⟨at_, 0⟩ :: recW (at_ + 1) (List.take k rec)) ++ [⟨at_ + 1 + k, x⟩] by simp, List.flatMap_append]
          have e2 : ([⟨at_ + 1 + k, x⟩] : List Wr).flatMap Wr.enc = [.int .i64 ((at_ : Int) + 1 + (k : Int)), .int .u32 (x.toNat : Int)] := by simp [Wr.enc]
          rw [e2]
          exact ho1
      · obtain rfl : k = rec.length := by omega
        have HO2 := Lib.hid (show wr.ownsRow (w.heap.size + 1) 123 2 u10 (rec.length + 1) ((⟨at_, 0⟩ :: recW (at_ + 1) rec).flatMap Wr.enc) by have := HO.out; rwa [List.take_of_length_le (Nat.le_refl _)] at this)
        have p0 := (Cpwr.out.at 0 rfl).1
        have p1 := (Cpwr.out.at 1 rfl).1
        go_wp2_with (fail)
        go_at_call 139
        refine (HM.out _ HB.out).mono ?_
        rintro e w2 ⟨rfl, hb⟩
        have HB2 := Lib.hid (HB.out.trans (hb.mono HB.out.size))
        have HO3 := Lib.hid (own_kept HO2.out hb)
        have lw2 := hb.size
        clear hb p0 p1 HO HO2
        go_wp2_with (fail)
        go_at_call 138
        refine (HX.out _).mono ?_
        rintro e w' ⟨rfl, rfl⟩
        go_wp2_with (at_builtin; refine app1 (w0 := w) (w.heap.size) rfl (.tmp 52) (.tmp 59) 53 123 (.agg #[.int .i64 0, .int .u32 0]) 2 16 rfl Tryd.underlying53 info_wr rfl (by decide) (by decide) _ _ _ [.int .i64 (at_ : Int), .int .u32 (nx.toNat : Int)] rfl rfl rfl ?c1 (own_less HO3.out (by omega)) HB2.out HB2.out.size ?c2 ?_; (case c1 => intro u hu; simp at hu; rcases hu with rfl | rfl <;> rfl); (case c2 => omega); intro v1 w3 ho1 hb1 _ _; obtain ⟨B, p, rfl, ho3⟩ := OwWr.of (xs := ⟨at_, 0⟩ :: recW (at_ + 1) rec ++ [⟨at_, nx⟩]) ho1 (by simp [recW_len]) (by rw [List.flatMap_append]; simp [Wr.enc]); have HO4 := Lib.hid ho3; have HB3 := Lib.hid hb1; clear ho1 ho3 hb1)
        go_ret2
        exact ⟨B, p, by simp, HO4.out, HB3.out⟩

theorem made_words (n : Nat) : (madeCells (Value.int .u32 0).cells (n * 1)).toList = (List.replicate n (0 : UInt32)).flatMap encW := by
  show (madeCells #[Value.int .u32 0] (n * 1)).toList = _
  rw [Nat.mul_one, toList_madeCells_one]
  induction n with
  | zero => rfl
  | succ n ih =>
    rw [List.replicate_succ, List.replicate_succ, List.flatMap_cons, ← ih]
    rfl
set_option maxHeartbeats 1000000 in
theorem fresh_any (n : Nat) (w : World) (h0 : 1 ≤ n) (hn : n ≤ 64) :
    Calls Tryd.prog 50 #[.int .i64 (n : Int)] w fun e w' => ∃ B d, e = .returned (.tuple #[.slice B (freshL n).length d, .int .i64 0]) ∧ OwW w.heap.size w' B d (freshL n) ∧ Below w.heap.size w w' := by
  obtain ⟨i0, hi, hz0, hz1, hz2⟩ := info_parts info_u32
  have e0 : decide ((n : Int) < 1) = false := decide_eq_false (by omega)
  have e1 : decide ((n : Int) > 64) = false := decide_eq_false (by omega)
  have e2 : (1 : Int) ≤ (n : Int) := by omega
  have e3 : (n : Int) ≤ 64 := by omega
  go_enter Tryd.func50, Tryd.ntmps50
  go_wp2_with (at_make; refine wpList_make_full _ rfl (.tmp 13) (.tmp 13) 50 rfl w.heap.size 93 i0 (.int .u32 0) 1 Tryd.underlying50 hi hz0 hz1 .i64 .i64 _ _ (2 * (n + 1)) rfl rfl ?l1 ?l2 ?m1 ?m2 ?m3 ?_; (case l1 => omega); (case l2 => omega); (case m1 => rw [hz2]; omega); (case m2 => simp [maxLen]; omega); (case m3 => exact Nat.le_refl _); intro w2 ho2 hg2; have ho3 := ho2; rw [made_words] at ho3; have hw0 := ho3.cellAt 0 (by simp); rw [flat_at, show (List.replicate (2 * (n + 1)) (0 : UInt32))[0]? = some 0 by simp] at hw0; have hw1 := ho3.frozenAt 0; have HO2 := Lib.hid ho3; have HB2 := Lib.hid ((Below.refl w.heap.size w).grown hg2 (Nat.le_refl _) (by simp)); clear ho2 ho3 hg2)
  go_ret2
  have hl : (freshL n).length = 2 * (n + 1) := by simp [freshL]; omega
  refine ⟨some ⟨w.heap.size, 0, none⟩, 2 * (n + 1), by rw [hl]; rfl, ?_, HB2.out.setCell (p := ⟨w.heap.size, 0, none⟩) (Nat.le_refl _) _⟩
  have h := (HO2.out.stored 0 (.int .u32 (((1 : UInt32).toNat : Nat) : Int))).1
  rw [flat_set] at h
  have e : (List.replicate (2 * (n + 1)) (0 : UInt32)).set 0 1 = freshL n := by
    rw [show 2 * (n + 1) = (2 * n + 1) + 1 by omega, List.replicate_succ]
    rfl
  rw [e] at h
  unfold OwW
  rw [hl]
  exact h
/-- A record of n words: those that there are, and behind them their places. -/
def fitX (l : List UInt32) (i : Nat) : UInt32 := (l[i]?).getD (UInt32.ofNat i)
def fitL (l : List UInt32) (n : Nat) : List UInt32 := (List.range n).map (fitX l)
theorem fitL_len (l : List UInt32) (n : Nat) : (fitL l n).length = n := by simp [fitL]
theorem fitL_snoc (l : List UInt32) (n : Nat) : fitL l (n + 1) = fitL l n ++ [fitX l n] := by simp [fitL, List.range_succ]






























































end Go.Proofs.YtccjcdecpgigpaaDoor.Cell
