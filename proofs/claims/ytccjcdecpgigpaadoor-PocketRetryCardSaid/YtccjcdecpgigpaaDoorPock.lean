/- A meter in its pocket: plain facts; contracts of meter.Read at a meter's words, pocket.Boot. -/
import Derived.Test.YtccjcdecpgigpaaDoorMetR
import Derived.Test.YtccjcdecpgigpaaDoorSlot
import Derived.Test.YtccjcdecpgigpaaDoorCs
namespace Go.Proofs.YtccjcdecpgigpaaDoor.Pock
open Go Go.RowKit Go.Proofs.YtccjcdecpgigpaaDoor.Base Go.Proofs.YtccjcdecpgigpaaDoor.Met Go.Proofs.YtccjcdecpgigpaaDoor.Win Go.Proofs.YtccjcdecpgigpaaDoor.Cell
set_option linter.unusedVariables false
set_option linter.unusedSimpArgs false
set_option maxRecDepth 20000
/-- The words hold the meter. -/
structure Pk (c : List UInt32) (m : Mt) : Prop where
  hold : Holds c 5 (wordsL m)
  ok : m.ok
  may : mmay m = true
theorem Pk.len {c : List UInt32} {m : Mt} (h : Pk c m) : c.length = 12 := h.hold.len
theorem words_len (m : Mt) : (wordsL m).length = 5 := rfl
theorem read_m (m : Mt) (A : Option Addr) (cap : Nat) (w : World) (ok : m.ok) (hm : mmay m = true) (hr : RdE 1 encW w A (wordsL m)) :
    Calls Tryd.prog 56 #[.slice A (wordsL m).length cap] w fun e w' => e = .returned (.tuple #[.agg m.vals, .int .i64 0]) ∧ Below w.heap.size w w' := by
  have h := read_any _ _ _ _ _ A cap w hr
  have e := read_words m ok hm
  unfold readR at h
  rw [e, if_pos hm] at h
  exact h
set_option maxHeartbeats 2000000 in
theorem Boot_any (c : List UInt32) (m : Mt) (A : Option Addr) (q : Nat) (w : World) (hc : RdE 1 encW w A c) (hk : Pk c m) (hq : c.length ≤ q) :
    Calls Tryd.prog 26 #[.slice A c.length q] w fun e w' => e = .returned (.tuple #[.agg m.vals, .int .i64 0]) ∧ Below w.heap.size w w' := by
  have HL := Lib.hid (fun W hW => load_any c (wordsL m) 5 A q W hW hk.hold (by decide) (by decide) hq)
  have HR := Lib.hid (fun B d W hW => read_m m B d W hk.ok hk.may hW)
  have HC := Lib.hid hc
  generalize wordsL m = L at *
  obtain ⟨me, rev, cr, wh, wb, bad, lock⟩ := m
  unfold Mt.vals at *
  simp only at HR ⊢
  clear hk hq hc
  go_enter Tryd.func26, Tryd.ntmps26
  go_wp2_with fail
  go_at_call 55
  refine (HL.out _ (HC.out.below (blw_alloc (Below.refl _ _) _))).mono ?_
  rintro e w1 ⟨B, d, rfl, ho, hb⟩
  have HB1 : Hid (Below w.heap.size w w1) := Lib.hid (below_then' (blw_alloc (Below.refl _ _) _) hb)
  have C1 := Lib.hid ((show Cs _ w.heap.size [.int .i64 0, .int .i64 0, .int .i64 0, .int .i64 0, .int .u64 0, .int .i64 0, .int .i64 0] from Cs.new rfl).after hb)
  have HO := Lib.hid ho.read
  clear hb ho
  go_wp2_with fail
  go_at_call 56
  refine (HR.out _ _ _ HO.out).mono ?_
  rintro e w2 ⟨rfl, hb⟩
  have HB2 : Hid (Below w.heap.size w w2) := Lib.hid (below_then' HB1.out hb)
  have C2 := Lib.hid (C1.out.after hb)
  clear hb
  have l2 := C2.out.1
  have g0 := (C2.out.at 0 rfl).1
  have g1 := (C2.out.at 1 rfl).1
  have g2 := (C2.out.at 2 rfl).1
  have g3 := (C2.out.at 3 rfl).1
  have g4 := (C2.out.at 4 rfl).1
  have g5 := (C2.out.at 5 rfl).1
  have g6 := (C2.out.at 6 rfl).1
  have f0 := (C2.out.at 0 rfl).2
  have f1 := (C2.out.at 1 rfl).2
  have f2 := (C2.out.at 2 rfl).2
  have f3 := (C2.out.at 3 rfl).2
  have f4 := (C2.out.at 4 rfl).2
  have f5 := (C2.out.at 5 rfl).2
  have f6 := (C2.out.at 6 rfl).2
  go_wp2_with fail
  refine bodyPost_ret (v := .tuple #[.agg #[.int .i64 me, .int .i64 rev, .int .i64 cr, .int .i64 wh, .int .u64 (wb : Int), .int .i64 bad, .int .i64 lock], .int .i64 0]) (by simp [results, Tryd.results26, go_sem, g0, f0, g1, f1, g2, f2, g3, f3, g4, f4, g5, f5, g6, f6]) rfl ⟨rfl, ?_⟩
  repeat (first | with_reducible exact HB2.out | with_reducible refine Below.setCell (p := ⟨_, _, none⟩) ?_ (by exact Nat.le_refl _) _)
end Go.Proofs.YtccjcdecpgigpaaDoor.Pock
