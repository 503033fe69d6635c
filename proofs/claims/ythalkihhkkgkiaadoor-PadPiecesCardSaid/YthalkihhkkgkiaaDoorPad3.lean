/- The contract of keypad.Keys at whatever text. -/
import Derived.Test.YthalkihhkkgkiaaDoorPad2
import Derived.Lib.OthersKept
namespace Go.Proofs.YthalkihhkkgkiaaDoor.Pad
open Go.RowKit Go.Proofs.YthalkihhkkgkiaaDoor.Base
set_option linter.unusedVariables false
set_option linter.unusedSimpArgs false
set_option maxRecDepth 20000
theorem info_en : (Tryd.prog.info? 31).map (fun i => (i.zero, i.size, i.bytes)) = some (some (.agg #[.string ByteArray.empty, .int .i64 0]), 2, 24) := by kernel_rfl
/-- The characters of a text, from a place on. -/
def runesFrom (s : ByteArray) : Nat → Nat → List Int
  | 0, _ => []
  | f + 1, pos => if pos < s.size then ((Utf8.decode s pos).1 : Int) :: runesFrom s f (pos + (Utf8.decode s pos).2) else []
def runes (s : ByteArray) : List Int := runesFrom s s.size 0
def keyStep (x : Pd × List En) (r : Int) : Pd × List En := ((pressP x.1 r).1, match (pressP x.1 r).2 with | none => x.2 | some e => x.2 ++ [e])
def keysP (rs : List Int) (x : Pd × List En) : Pd × List En := rs.foldl keyStep x
theorem decode_pos (s : ByteArray) (pos : Nat) (h : pos < s.size) : 1 ≤ (Utf8.decode s pos).2 := by
  by_cases ha : (s[pos]'h).toNat < 128
  · rw [decode_ascii s pos h ha]; exact Nat.le_refl _
  · exact (decode_high s pos h (by omega)).2
theorem runes_step (s : ByteArray) (f pos : Nat) (h : pos < s.size) (hf : s.size - pos ≤ f) : ∃ f', runesFrom s f pos = ((Utf8.decode s pos).1 : Int) :: runesFrom s f' (pos + (Utf8.decode s pos).2) ∧ s.size - (pos + (Utf8.decode s pos).2) ≤ f' := by
  cases f with
  | zero => omega
  | succ f =>
    refine ⟨f, ?_, ?_⟩
    · show (if pos < s.size then _ else _) = _
      rw [if_pos h]
    · have := decode_pos s pos h
      omega
theorem runes_end (s : ByteArray) (f pos : Nat) (h : ¬ pos < s.size) : runesFrom s f pos = [] := by
  cases f with
  | zero => rfl
  | succ f => show (if pos < s.size then _ else _) = _; rw [if_neg h]
theorem own_same {B : Nat} {e : TypeId} {k : Nat} {v : Value} {n : Nat} {xs : List Value} {w w' : World} (h : w.ownsRow B e k v n xs) (hg : ∀ g, B ≤ g → w'.heap[g]? = w.heap[g]?) : w'.ownsRow B e k v n xs :=
  ⟨h.1, h.2.imp (fun x => x) (fun ⟨g, cap, cur, h1, h2, h3, h4⟩ => ⟨g, cap, cur, h1, h2, (hg g h2).trans h3, h4⟩)⟩
theorem own_iter {B k0 : Nat} {e : TypeId} {k : Nat} {v : Value} {n : Nat} {xs : List Value} {w : World} (h : w.ownsRow B e k v n xs) (hk : k0 < B) (s : ByteArray) (p : Nat) : (w.iterAt k0 s p).ownsRow B e k v n xs :=
  own_same h fun g hg => Lib.iterAt_other w k0 g s p (by omega)
theorem cs_iter {b k0 : Nat} {vs : List Value} {w : World} (h : Cs w b vs) (hk : b ≠ k0) (s : ByteArray) (p : Nat) : Cs (w.iterAt k0 s p) b vs := by
  have hh := Lib.iterAt_other w k0 b s p hk
  exact ⟨by rw [Lib.iterAt_size]; exact h.1, fun i v hv => ⟨(World.cell?_of_block hh).trans (h.2 i v hv).1, (World.frozen?_of_block hh).trans (h.2 i v hv).2⟩⟩
theorem keysP_cons (p : Pd) (out : List En) (r : Int) (rs : List Int) : keysP (r :: rs) (p, out) = keysP rs ((pressP p r).1, match (pressP p r).2 with | none => out | some e => out ++ [e]) := rfl
theorem keys_big (s : ByteArray) (h : 2000 < s.size) (w : World) : Calls Tryd.prog 8 #[.string s] w fun e w' => e = .returned (.tuple #[.slice none 0 0, .agg #[.string ByteArray.empty, .bool false], .int .i64 1]) ∧ Below w.heap.size w w' := by
  have hi : (2000 : Int) < (s.size : Int) := by omega
  go_enter Tryd.func8, Tryd.ntmps8
  go_wp2_with fail
  refine bodyPost_ret (v := .tuple #[.slice none 0 0, .agg #[.string ByteArray.empty, .bool false], .int .i64 1]) (by simp [results, Tryd.results8, go_sem]; rfl) rfl ⟨rfl, blw_alloc (Below.refl _ _) _⟩
theorem cs_same {w w' : World} {b : Nat} {vs : List Value} (h : Cs w b vs) (hh : w'.heap[b]? = w.heap[b]?) : Cs w' b vs := by
  refine ⟨?_, fun i v hv => ⟨(World.cell?_of_block hh).trans (h.2 i v hv).1, (World.frozen?_of_block hh).trans (h.2 i v hv).2⟩⟩
  have h1 := h.1
  rw [Array.getElem?_eq_getElem h1] at hh
  exact (Array.getElem?_eq_some_iff.1 hh).1
theorem own_far {B : Nat} {e : TypeId} {k : Nat} {v : Value} {n : Nat} {xs : List Value} {w : World} (h : w.ownsRow B e k v n xs) {g : Nat} (hg : w.heap.size ≤ g) : some g ≠ v.ownBlock := by
  intro e
  have := (h.lt g e.symm).2
  omega
def OwEn (B : Nat) (w : World) (A : Option Addr) (q : Nat) (xs : List En) : Prop := w.ownsRow B 31 2 (.slice A xs.length q) xs.length (xs.flatMap En.enc)
set_option maxHeartbeats 8000000 in
theorem keys_any (s : ByteArray) (h : s.size ≤ 2000) (w : World) : Calls Tryd.prog 8 #[.string s] w fun e w' => (∃ A q, e = .returned (.tuple #[.slice A (keysP (runes s) (⟨[], false⟩, [])).2.length q, .agg (keysP (runes s) (⟨[], false⟩, [])).1.vals, .int .i64 0]) ∧ OwEn w.heap.size w' A q (keysP (runes s) (⟨[], false⟩, [])).2) ∧ (keysP (runes s) (⟨[], false⟩, [])).1.ok ∧ Below w.heap.size w w' := by
  have hi : ¬ (2000 : Int) < (s.size : Int) := by omega
  obtain ⟨R, hR⟩ : ∃ R, R = keysP (runes s) (⟨[], false⟩, []) := ⟨_, rfl⟩
  rw [← hR]
  unfold runes at hR
  have HRR := Lib.hid hR
  have HSZ := Lib.hid h
  clear hR
  go_enter Tryd.func8, Tryd.ntmps8
  go_upto_region 6 with fail
  go_loopw [6] (fun v wr => ∃ (pos f : Nat) (p : Pd) (out : List En), p.ok ∧ out.length ≤ pos ∧ s.size - pos ≤ f ∧ R = keysP (runesFrom s f pos) (p, out) ∧ wr.heap[w.heap.size + 1 + 1]? = some (.stringIter s pos) ∧ Cs wr w.heap.size [.string ⟨#[]⟩, .bool false] ∧ Cs wr (w.heap.size + 1) [.string (strOf p.d), .bool p.b] ∧ wr.ownsRow (w.heap.size + 1 + 1 + 1) 31 2 v out.length (out.flatMap En.enc) ∧ Below w.heap.size w wr) (fun _ wr => s.size - wr.iterPos (w.heap.size + 1 + 1))
  case atStart =>
    refine ⟨0, s.size, ⟨[], false⟩, [], ⟨by simp, by simp⟩, by simp, by omega, HRR.out, ?_, ?_, ?_, World.ownsRow_nil _ _ _ _, ?_⟩
    · have := heap_alloc_new ((w.alloc (.cells #[.string ⟨#[]⟩, .bool false] 26)).alloc (.cells #[.string ⟨#[]⟩, .bool false] 26)) (.stringIter s 0)
      simpa [World.iter] using this
    · exact (Cs.alloc (Cs.new rfl) _).after (below_iter _ s 0)
    · exact (Cs.new (by simp)).after (below_iter _ s 0)
    · exact below_then' (blw_alloc (blw_alloc (Below.refl _ _) _) _) (below_iter _ s 0)
  case round =>
    obtain ⟨pos, f, p, out, hpok, hol, hf, hRR, hit, hcr, hcp, ho, hb⟩ := hrel
    have HIT := Lib.hid hit
    have hzr := hcp.1
    have hkl : w.heap.size + 1 + 1 < wr.heap.size := (Array.getElem?_eq_some_iff.1 hit).1
    by_cases hlt : pos < s.size
    · have hdl := decode_le s pos
      have hdp := decode_pos s pos hlt
      obtain ⟨f2, hrs, hf2⟩ := runes_step s f pos hlt hf
      rw [hrs] at hRR
      have hnx : ∀ ty, (Instr.next (.pointer (some ⟨w.heap.size + 1 + 1, 0, none⟩)) true ty).run Tryd.prog wr = _ := fun ty => Lib.run_next_any_at wr (w.heap.size + 1 + 1) s pos ty hit hlt
      have ip0 : wr.iterPos (w.heap.size + 1 + 1) = pos := iterPos_of hit
      generalize (Utf8.decode s pos).1 = r at *
      generalize (Utf8.decode s pos).2 = n at *
      obtain ⟨wi, hwi⟩ : ∃ wi, wi = wr.iterAt (w.heap.size + 1 + 1) s (pos + n) := ⟨_, rfl⟩
      rw [← hwi] at hnx
      have HITi : Hid (wi.heap[w.heap.size + 1 + 1]? = some (.stringIter s (pos + n))) := Lib.hid (by rw [hwi]; exact Lib.iterAt_heap wr _ s pos (pos + n) hit)
      have CRi : Hid (Cs wi w.heap.size [.string ⟨#[]⟩, .bool false]) := Lib.hid (by rw [hwi]; exact cs_iter hcr (by omega) s _)
      have CPi : Hid (Cs wi (w.heap.size + 1) [.string (strOf p.d), .bool p.b]) := Lib.hid (by rw [hwi]; exact cs_iter hcp (by omega) s _)
      have HOi := Lib.hid (show wi.ownsRow (w.heap.size + 1 + 1 + 1) 31 2 u6 out.length (out.flatMap En.enc) by rw [hwi]; exact own_iter ho (by omega) s _)
      have HBi : Hid (Below w.heap.size w wi) := Lib.hid (by rw [hwi]; exact Lib.below_iterAt hb (by omega) s _)
      have hsi : w.heap.size + 1 + 1 < wi.heap.size := by rw [hwi, Lib.iterAt_size]; exact hkl
      have HPR := Lib.hid (fun W => press_any p r W hpok (by omega) (by omega))
      have hks := keysP_cons p out r (runesFrom s f2 (pos + n))
      rw [hks] at hRR
      have hok2 := press_ok p r hpok
      have HIP := Lib.hid ip0
      have HOL := Lib.hid (show out.length ≤ 2000 by have := HSZ.out; omega)
      have HN := Lib.hid hdp
      clear hwi hks hpok hit hcr hcp ho hb hrs hf ip0 HIT
      generalize (pressP p r).1 = p2 at *
      have c0 := (CPi.out.at 0 rfl).1
      have c1 := (CPi.out.at 1 rfl).1
      cases hent : (pressP p r).2 with
      | none =>
        simp only [hent] at HPR hRR
        have HRR2 := Lib.hid hRR
        clear hRR hent
        obtain ⟨d, b⟩ := p
        obtain ⟨d2, b2⟩ := p2
        unfold Pd.vals at HPR
        simp only at HPR CPi c0 c1
        go_wp2_with (fail)
        go_at_call 14
        refine (HPR.out _).mono ?_
        rintro e w1 ⟨rfl, hb1⟩
        have HIT1 : Hid (w1.heap[w.heap.size + 1 + 1]? = some (.stringIter s (pos + n))) := Lib.hid ((hb1.block _ hsi).trans HITi.out)
        have CR1 := Lib.hid (CRi.out.after hb1)
        have CP1 := Lib.hid (CPi.out.after hb1)
        have HO1 := Lib.hid (own_kept HOi.out hb1)
        have HB1 : Hid (Below w.heap.size w w1) := Lib.hid (below_then' HBi.out hb1)
        have hz1 := hb1.size
        clear hb1 c0 c1
        go_upto_region 9 with fail
        obtain ⟨u, hu⟩ : ∃ u, u = w1.alloc (.cells #[.string (strOf d2), .bool b2] 26) := ⟨_, rfl⟩
        have HITu : Hid (u.heap[w.heap.size + 1 + 1]? = some (.stringIter s (pos + n))) := Lib.hid (by rw [hu]; exact ((blw_alloc (Below.refl w1.heap.size w1) _).block _ (by omega)).trans HIT1.out)
        have CRu : Hid (Cs u w.heap.size [.string ⟨#[]⟩, .bool false]) := Lib.hid (by rw [hu]; exact Cs.alloc CR1.out _)
        have CPu : Hid (Cs u (w.heap.size + 1) [.string (strOf d), .bool b]) := Lib.hid (by rw [hu]; exact Cs.alloc CP1.out _)
        have CQu : Hid (Cs u w1.heap.size [.string (strOf d2), .bool b2]) := Lib.hid (by rw [hu]; exact Cs.new rfl)
        have HOu := Lib.hid (show u.ownsRow (w.heap.size + 1 + 1 + 1) 31 2 u6 out.length (out.flatMap En.enc) by rw [hu]; exact HO1.out.alloc _)
        have HBu : Hid (Below w.heap.size w u) := Lib.hid (by rw [hu]; exact blw_alloc HB1.out _)
        have hzu : w1.heap.size < u.heap.size := CQu.out.1
        rw [← hu]
        clear hu
        have qg0 := (CQu.out.at 0 rfl).1
        have qg1 := (CQu.out.at 1 rfl).1
        have pg0 := (CPu.out.at 0 rfl).1
        have pg1 := (CPu.out.at 1 rfl).1
        have pf0 := (CPu.out.at 0 rfl).2
        have pf1 := (CPu.out.at 1 rfl).2
        have lpp := CPu.out.1
        go_wp2_with fail
        go_roundw
        case rel =>
          refine ⟨pos + n, f2, ⟨d2, b2⟩, out, hok2, by have := HN.out; omega, hf2, HRR2.out, ?_, ?_, ?_, ?_, ?_⟩
          · rw [Below.heap_setCell _ _ _ _ (by simp), Below.heap_setCell _ _ _ _ (by simp)]
            exact HITu.out
          · exact Cs.other (a := ⟨w.heap.size + 1, 1, none⟩) (by simp) (Cs.other (a := ⟨w.heap.size + 1, 0, none⟩) (by simp) CRu.out _) _
          · exact Cs.put (i := 1) (Cs.put (i := 0) CPu.out (by simp) rfl) (by simp) rfl
          · exact ownsRow_setCell_below (a := ⟨w.heap.size + 1, 1, none⟩) (ownsRow_setCell_below (a := ⟨w.heap.size + 1, 0, none⟩) HOu.out (by simp) _) (by simp) _
          · exact (HBu.out.setCell (p := ⟨w.heap.size + 1, 0, none⟩) (by simp) _).setCell (p := ⟨w.heap.size + 1, 1, none⟩) (by simp) _
        case measure =>
          rw [HIP.out, iterPos_of (show _ = some (Obj.stringIter s (pos + n)) by rw [Below.heap_setCell _ _ _ _ (by simp), Below.heap_setCell _ _ _ _ (by simp)]; exact HITu.out)]
          have := HN.out
          omega
      | some x =>
        simp only [hent] at HPR hRR
        have HRR2 := Lib.hid hRR
        clear hRR hent
        obtain ⟨d, b⟩ := p
        obtain ⟨d2, b2⟩ := p2
        obtain ⟨xt, xc⟩ := x
        unfold Pd.vals En.enc at HPR
        simp only at HPR CPi c0 c1
        go_wp2_with (fail)
        go_at_call 14
        refine (HPR.out _).mono ?_
        rintro e w1 ⟨⟨qb, rfl, hqb, hcx⟩, hb1⟩
        have CX1 := Lib.hid hcx
        clear hcx
        have HIT1 : Hid (w1.heap[w.heap.size + 1 + 1]? = some (.stringIter s (pos + n))) := Lib.hid ((hb1.block _ hsi).trans HITi.out)
        have CR1 := Lib.hid (CRi.out.after hb1)
        have CP1 := Lib.hid (CPi.out.after hb1)
        have HO1 := Lib.hid (own_kept HOi.out hb1)
        have HB1 : Hid (Below w.heap.size w w1) := Lib.hid (below_then' HBi.out hb1)
        have hz1 := hb1.size
        clear hb1 c0 c1
        go_upto_region 9 with fail
        obtain ⟨u, hu⟩ : ∃ u, u = w1.alloc (.cells #[.string (strOf d2), .bool b2] 26) := ⟨_, rfl⟩
        have HITu : Hid (u.heap[w.heap.size + 1 + 1]? = some (.stringIter s (pos + n))) := Lib.hid (by rw [hu]; exact ((blw_alloc (Below.refl w1.heap.size w1) _).block _ (by omega)).trans HIT1.out)
        have CRu : Hid (Cs u w.heap.size [.string ⟨#[]⟩, .bool false]) := Lib.hid (by rw [hu]; exact Cs.alloc CR1.out _)
        have CPu : Hid (Cs u (w.heap.size + 1) [.string (strOf d), .bool b]) := Lib.hid (by rw [hu]; exact Cs.alloc CP1.out _)
        have CQu : Hid (Cs u w1.heap.size [.string (strOf d2), .bool b2]) := Lib.hid (by rw [hu]; exact Cs.new rfl)
        have HOu := Lib.hid (show u.ownsRow (w.heap.size + 1 + 1 + 1) 31 2 u6 out.length (out.flatMap En.enc) by rw [hu]; exact HO1.out.alloc _)
        have HBu : Hid (Below w.heap.size w u) := Lib.hid (by rw [hu]; exact blw_alloc HB1.out _)
        have hzu : w1.heap.size < u.heap.size := CQu.out.1
        have CXu : Hid (Cs u qb [.string (strOf xt), .int .i64 xc]) := Lib.hid (by rw [hu]; exact Cs.alloc CX1.out _)
        rw [← hu]
        clear hu
        have qg0 := (CQu.out.at 0 rfl).1
        have qg1 := (CQu.out.at 1 rfl).1
        have xg0 := (CXu.out.at 0 rfl).1
        have xg1 := (CXu.out.at 1 rfl).1
        have hl24 : (out.length + 1) * 24 ≤ 140737488355328 := by have := HOL.out; omega
        have hbs : w.heap.size + 1 + 1 + 1 ≤ u.heap.size := by omega
        have nq := own_far HO1.out (Nat.le_refl _)
        have NQ := Lib.hid nq
        clear nq
        go_wp2_with (at_builtin; refine app1 (w0 := u) (w.heap.size + 1 + 1 + 1) rfl (.tmp 28) (.tmp 32) 24 31 (.agg #[.string ByteArray.empty, .int .i64 0]) 2 24 rfl Tryd.underlying24 info_en rfl (by decide) (by decide) _ out.length (out.flatMap En.enc) [.string (strOf xt), .int .i64 xc] rfl rfl rfl ?c1 HOu.out (Below.refl _ _) hbs hl24 ?_; (case c1 => intro z hz; simp at hz; rcases hz with rfl | rfl <;> rfl); intro v3 w3 ho3 hb3 hg3 _; have HO3 := Lib.hid ho3; have HIT3 : Hid (w3.heap[w.heap.size + 1 + 1]? = some (.stringIter s (pos + n))) := Lib.hid ((hb3.block _ (by omega)).trans HITu.out); have CR3 := Lib.hid (CRu.out.below hb3 (by omega)); have CP3 := Lib.hid (CPu.out.below hb3 (by omega)); have CQ3 := Lib.hid (cs_same CQu.out (hg3.block _ hzu NQ.out)); have HB3 : Hid (Below w.heap.size w w3) := Lib.hid (HBu.out.trans (hb3.mono (by omega))); clear ho3 hb3 hg3 qg0 qg1 xg0 xg1; have qg0 := (CQ3.out.at 0 rfl).1; have qg1 := (CQ3.out.at 1 rfl).1; have lq3 := CQ3.out.1; have pg0 := (CP3.out.at 0 rfl).1; have pg1 := (CP3.out.at 1 rfl).1; have pf0 := (CP3.out.at 0 rfl).2; have pf1 := (CP3.out.at 1 rfl).2; have lpp := CP3.out.1)
        have HO4 : Hid (w3.ownsRow (w.heap.size + 1 + 1 + 1) 31 2 v3 (out ++ [(⟨xt, xc⟩ : En)]).length ((out ++ [(⟨xt, xc⟩ : En)]).flatMap En.enc)) := Lib.hid (by rw [List.length_append, List.flatMap_append]; exact HO3.out)
        go_roundw
        case rel =>
          refine ⟨pos + n, f2, ⟨d2, b2⟩, out ++ [⟨xt, xc⟩], hok2, by have := HN.out; simp; omega, hf2, HRR2.out, ?_, ?_, ?_, ?_, ?_⟩
          · rw [Below.heap_setCell _ _ _ _ (by simp), Below.heap_setCell _ _ _ _ (by simp)]
            exact HIT3.out
          · exact Cs.other (a := ⟨w.heap.size + 1, 1, none⟩) (by simp) (Cs.other (a := ⟨w.heap.size + 1, 0, none⟩) (by simp) CR3.out _) _
          · exact Cs.put (i := 1) (Cs.put (i := 0) CP3.out (by simp) rfl) (by simp) rfl
          · exact ownsRow_setCell_below (a := ⟨w.heap.size + 1, 1, none⟩) (ownsRow_setCell_below (a := ⟨w.heap.size + 1, 0, none⟩) HO4.out (by simp) _) (by simp) _
          · exact (HB3.out.setCell (p := ⟨w.heap.size + 1, 0, none⟩) (by simp) _).setCell (p := ⟨w.heap.size + 1, 1, none⟩) (by simp) _
        case measure =>
          rw [HIP.out, iterPos_of (show _ = some (Obj.stringIter s (pos + n)) by rw [Below.heap_setCell _ _ _ _ (by simp), Below.heap_setCell _ _ _ _ (by simp)]; exact HIT3.out)]
          have := HN.out
          omega
    · rw [runes_end s f pos hlt] at hRR
      have hRR' : R = (p, out) := hRR
      have hnx : ∀ ty, (Instr.next (.pointer (some ⟨w.heap.size + 1 + 1, 0, none⟩)) true ty).run Tryd.prog wr = _ := fun ty => Lib.run_next_end_at wr (w.heap.size + 1 + 1) s pos ty hit hlt
      subst hRR'
      have c0 := (hcp.at 0 rfl).1
      have c1 := (hcp.at 1 rfl).1
      have r0 := (hcr.at 0 rfl).1
      have r1 := (hcr.at 1 rfl).1
      have g0 := (hcr.at 0 rfl).2
      have g1 := (hcr.at 1 rfl).2
      have lr := hcr.1
      have HO := Lib.hid ho
      have HBr := Lib.hid hb
      clear hit hRR hcr hcp ho hb HRR hf
      obtain ⟨d, b⟩ := p
      simp only at c0 c1 hpok
      obtain ⟨A, q, rfl⟩ : ∃ A q, u6 = .slice A out.length q := by
        rcases HO.out.2 with ⟨h1, h2⟩ | ⟨g, cap, cur, h1, _⟩
        · exact ⟨none, 0, by rw [h1, ← h2]⟩
        · exact ⟨_, _, h1⟩
      go_wp2_with fail
      go_region
      go_wp2_with fail
      refine bodyPost_ret (v := .tuple #[.slice A out.length q, .agg #[.string (strOf d), .bool b], .int .i64 0]) (by simp [results, Tryd.results8, go_sem, r0, r1, g0, g1]) rfl ⟨⟨A, q, rfl, ?_⟩, ?_⟩
      · exact own_kept (own_less (ownsRow_setCell_below (a := ⟨w.heap.size, 1, none⟩) (ownsRow_setCell_below (a := ⟨w.heap.size, 0, none⟩) HO.out (by simp; omega) _) (by simp; omega) _) (by omega)) (Below.refl _ _).drew
      · exact ((HBr.out.setCell (p := ⟨w.heap.size, 0, none⟩) (Nat.le_refl _) _).setCell (p := ⟨w.heap.size, 1, none⟩) (Nat.le_refl _) _).drew
end Go.Proofs.YthalkihhkkgkiaaDoor.Pad
