/- The contract of words.Read at digits. -/
import Derived.Test.YtccjcdecpgigpaaDoorShow
import Derived.Lib.OthersKept
import Derived.WalkSmall
namespace Go.Proofs.YtccjcdecpgigpaaDoor.Read
open Go.RowKit Go.Proofs.YtccjcdecpgigpaaDoor.Base Go.Proofs.YtccjcdecpgigpaaDoor.Word Go.Proofs.YtccjcdecpgigpaaDoor.Dig Go.Proofs.YtccjcdecpgigpaaDoor.Show
set_option linter.unusedVariables false
set_option linter.unusedSimpArgs false
set_option maxRecDepth 20000
structure W3c (w : World) (b : Nat) (x0 x1 x2 : Int) : Prop where
  c0 : w.cell? ⟨b, 0, none⟩ = some (.int .u32 x0)
  c1 : w.cell? ⟨b, 1, none⟩ = some (.int .u32 x1)
  c2 : w.cell? ⟨b, 2, none⟩ = some (.int .u32 x2)
  f0 : w.frozen? ⟨b, 0, none⟩ = false
  f1 : w.frozen? ⟨b, 1, none⟩ = false
  f2 : w.frozen? ⟨b, 2, none⟩ = false
theorem W3c.below {w w' : World} {b : Nat} {x0 x1 x2 : Int} (h : W3c w b x0 x1 x2) {B : Nat} (hb : Below B w w') (hl : b < B) : W3c w' b x0 x1 x2 :=
  ⟨(hb.cell (p := ⟨b, 0, none⟩) hl).trans h.c0, (hb.cell (p := ⟨b, 1, none⟩) hl).trans h.c1, (hb.cell (p := ⟨b, 2, none⟩) hl).trans h.c2, (hb.frozen (p := ⟨b, 0, none⟩) hl).trans h.f0, (hb.frozen (p := ⟨b, 1, none⟩) hl).trans h.f1, (hb.frozen (p := ⟨b, 2, none⟩) hl).trans h.f2⟩
theorem W3c.iterAt {w : World} {b : Nat} {x0 x1 x2 : Int} (h : W3c w b x0 x1 x2) {k : Nat} (hk : b ≠ k) (s : ByteArray) (p : Nat) : W3c (w.iterAt k s p) b x0 x1 x2 := by
  have hh := Lib.iterAt_other w k b s p hk
  exact ⟨(World.cell?_of_block hh).trans h.c0, (World.cell?_of_block hh).trans h.c1, (World.cell?_of_block hh).trans h.c2, (World.frozen?_of_block hh).trans h.f0, (World.frozen?_of_block hh).trans h.f1, (World.frozen?_of_block hh).trans h.f2⟩
def set3 (w : World) (b : Nat) (v0 v1 v2 : Int) : World := ((w.setCell ⟨b, 0, none⟩ (.int .u32 v0)).setCell ⟨b, 1, none⟩ (.int .u32 v1)).setCell ⟨b, 2, none⟩ (.int .u32 v2)
theorem W3c.put {w : World} {b : Nat} {x0 x1 x2 : Int} (h : W3c w b x0 x1 x2) (v0 v1 v2 : Int) : W3c (set3 w b v0 v1 v2) b v0 v1 v2 := by
  obtain ⟨c0, c1, c2, f0, f1, f2⟩ := h
  unfold set3
  exact ⟨by go_simp, by go_simp, by go_simp, by go_simp, by go_simp, by go_simp⟩
theorem set3_heap (w : World) (b k : Nat) (hk : k ≠ b) (v0 v1 v2 : Int) : (set3 w b v0 v1 v2).heap[k]? = w.heap[k]? := by
  unfold set3
  rw [Below.heap_setCell _ _ _ _ hk, Below.heap_setCell _ _ _ _ hk, Below.heap_setCell _ _ _ _ hk]
theorem set3_size (w : World) (b : Nat) (v0 v1 v2 : Int) : (set3 w b v0 v1 v2).heap.size = w.heap.size := by
  unfold set3; simp
theorem W3c.far {w : World} {b b' : Nat} {x0 x1 x2 : Int} (h : W3c w b x0 x1 x2) (hk : b ≠ b') (v0 v1 v2 : Int) : W3c (set3 w b' v0 v1 v2) b x0 x1 x2 := by
  have hh := set3_heap w b' b hk v0 v1 v2
  exact ⟨(World.cell?_of_block hh).trans h.c0, (World.cell?_of_block hh).trans h.c1, (World.cell?_of_block hh).trans h.c2, (World.frozen?_of_block hh).trans h.f0, (World.frozen?_of_block hh).trans h.f1, (World.frozen?_of_block hh).trans h.f2⟩
theorem below_set3 {B : Nat} {a w : World} (h : Below B a w) {b : Nat} (hb : B ≤ b) (v0 v1 v2 : Int) : Below B a (set3 w b v0 v1 v2) :=
  ((h.setCell (p := ⟨b, 0, none⟩) hb _).setCell (p := ⟨b, 1, none⟩) hb _).setCell (p := ⟨b, 2, none⟩) hb _
theorem digit_step (y : W3) (hy : y.ok) (d : Nat) (hd : d < 10) (hv : natOf y * 10 + d < 79228162514264337593543950336) :
    timesC y 10 = 0 ∧ plusC (timesW y 10) (d : Int) = 0 ∧ (plusW (timesW y 10) (d : Int)).ok ∧ natOf (plusW (timesW y 10) (d : Int)) = natOf y * 10 + d := by
  have hw10 : wd 10 := by unfold wd; omega
  have hwd : wd (d : Int) := by unfold wd; omega
  have h1 := times_num y 10
  have h2 := plus_num (timesW y 10) (d : Int)
  have b0 := num_bound hy
  have b1 := num_bound (timesW_ok y 10)
  have b2 := num_bound (plusW_ok (timesW y 10) (d : Int))
  have c1 := timesC_wd y 10 hy hw10
  have c2 := plusC_wd (timesW y 10) (d : Int) (timesW_ok _ _) hwd
  unfold wd at c1 c2
  unfold natOf at *
  have e1 : timesC y 10 = 0 := by omega
  have e2 : plusC (timesW y 10) (d : Int) = 0 := by omega
  refine ⟨e1, e2, plusW_ok _ _, by omega⟩
theorem val_le (l m : List UInt8) : valL l ≤ valL (l ++ m) := by
  induction m using snoc_ind with
  | h0 => simp
  | hs m c ih =>
    rw [← List.append_assoc, valL_snoc]
    omega
def wOf (n : Nat) : W3 := ⟨((n % 4294967296 : Nat) : Int), ((n / 4294967296 % 4294967296 : Nat) : Int), ((n / 18446744073709551616 : Nat) : Int)⟩
theorem wOf_eq {x : W3} (hx : x.ok) : x = wOf (natOf x) := by
  unfold W3.ok wd at hx
  obtain ⟨a, b, c⟩ := x
  simp only at hx
  unfold wOf natOf W3.num
  simp only [W3.mk.injEq]
  omega
set_option maxHeartbeats 2000000 in
theorem read_any (s : ByteArray) (w : World) (h1 : 1 ≤ s.size) (h40 : s.size ≤ 40) (hd : ∀ c ∈ s.data.toList, isDig c = true) (hlead : s.size = 1 ∨ ∀ c, s.data.toList.head? = some c → c ≠ 48) (hv : valL s.data.toList < 79228162514264337593543950336) :
    Calls Tryd.prog 40 #[.string s] w fun e w' => e = .returned (.tuple #[.agg #[.int .u32 (wOf (valL s.data.toList)).a, .int .u32 (wOf (valL s.data.toList)).b, .int .u32 (wOf (valL s.data.toList)).c], .int .i64 0]) ∧ Below w.heap.size w w' := by
  have hne : s.toList.isEmpty = false := data_ne s (by omega)
  have hne2 : ¬ s.toList = [] := by intro e; rw [e] at hne; simp at hne
  have HD := Lib.hid hd
  have HV := Lib.hid hv
  have hs0 : 0 < s.size := by omega
  have hl0 : (s.size ≤ 1 ∧ (((s[0]'hs0).toNat : Int) == 48) = true) ∨ (s.size ≤ 1 ∧ (((s[0]'hs0).toNat : Int) == 48) = false) ∨ (1 < s.size ∧ (((s[0]'hs0).toNat : Int) == 48) = false) := by
    by_cases e : s.size ≤ 1
    · cases hq : (((s[0]'hs0).toNat : Int) == 48)
      · exact .inr (.inl ⟨e, rfl⟩)
      · exact .inl ⟨e, rfl⟩
    · right; right
      refine ⟨by omega, ?_⟩
      rcases hlead with h | h
      · omega
      · have hh := h (s[0]'hs0) (by rw [List.head?_eq_getElem?, bytes_at s 0 hs0])
        rw [beq_eq_false_iff_ne]
        intro h2
        exact hh (UInt8.toNat_inj.1 (by rw [show (48 : UInt8).toNat = 48 from rfl]; omega))
  clear hd hv hlead
  rcases hl0 with ⟨ha, hb⟩ | ⟨ha, hb⟩ | ⟨ha, hb⟩
  all_goals
    go_enter Tryd.func40, Tryd.ntmps40
    go_wp2_with (fail)
    go_loopw [5] (fun ov wr => ∃ (pos : Nat) (y : W3), pos ≤ s.size ∧ ov = .bool false ∧ y.ok ∧ natOf y = valL (s.data.toList.take pos) ∧ wr.heap[w.heap.size + 1 + 1]? = some (.stringIter s pos) ∧ Below w.heap.size w wr ∧ w.heap.size + 1 + 1 < wr.heap.size ∧ W3c wr w.heap.size 0 0 0 ∧ W3c wr (w.heap.size + 1) y.a y.b y.c) (fun _ wr => s.size - wr.iterPos (w.heap.size + 1 + 1))
    case atStart =>
      have X0 : W3c ((w.alloc (.cells #[.int .u32 0, .int .u32 0, .int .u32 0] 95)).alloc (.cells #[.int .u32 0, .int .u32 0, .int .u32 0] 95)) w.heap.size 0 0 0 := ⟨by go_simp, by go_simp, by go_simp, by go_simp, by go_simp, by go_simp⟩
      have X1 : W3c ((w.alloc (.cells #[.int .u32 0, .int .u32 0, .int .u32 0] 95)).alloc (.cells #[.int .u32 0, .int .u32 0, .int .u32 0] 95)) (w.heap.size + 1) 0 0 0 := ⟨by go_simp, by go_simp, by go_simp, by go_simp, by go_simp, by go_simp⟩
      refine ⟨0, ⟨0, 0, 0⟩, by omega, rfl, ⟨by unfold wd; simp, by unfold wd; simp, by unfold wd; simp⟩, rfl, ?_, ?_, by simp [World.iter], X0.below (below_iter _ s 0) (by simp <;> omega), X1.below (below_iter _ s 0) (by simp <;> omega)⟩
      · have := heap_alloc_new ((w.alloc (.cells #[.int .u32 0, .int .u32 0, .int .u32 0] 95)).alloc (.cells #[.int .u32 0, .int .u32 0, .int .u32 0] 95)) (.stringIter s 0)
        simpa [World.iter] using this
      · exact below_then' (blw_alloc (blw_alloc (Below.refl _ _) _) _) (below_iter _ s 0)
    case round =>
      obtain ⟨pos, y, hp, rfl, hy, hval, hit, hbl, hsz, hz, hyc⟩ := hrel
      have HB := Lib.hid hbl
      have HIT := Lib.hid hit
      have HZ := Lib.hid hz
      have HVAL := Lib.hid hval
      by_cases hlt : pos < s.size
      · have hdig := HD.out (s[pos]'hlt) (List.mem_of_getElem? (bytes_at s pos hlt))
        have hch : 48 ≤ (s[pos]'hlt).toNat ∧ (s[pos]'hlt).toNat ≤ 57 := by unfold isDig at hdig; simpa using hdig
        obtain ⟨ch0, ch1⟩ := hch
        have hnx : ∀ ty, (Instr.next (.pointer (some ⟨w.heap.size + 1 + 1, 0, none⟩)) true ty).run Tryd.prog wr = _ := fun ty => Lib.run_next_ascii_at wr (w.heap.size + 1 + 1) s pos ty hit hlt (by omega)
        have htk := take_snoc s pos hlt
        have hvs : valL (s.data.toList.take (pos + 1)) = natOf y * 10 + ((s[pos]'hlt).toNat - 48) := by rw [htk, valL_snoc, hval]
        have hle : valL (s.data.toList.take (pos + 1)) < 79228162514264337593543950336 := by
          have := val_le (s.data.toList.take (pos + 1)) (s.data.toList.drop (pos + 1))
          rw [List.take_append_drop] at this
          exact Nat.lt_of_le_of_lt this HV.out
        obtain ⟨dg, hdg⟩ : ∃ dg, dg = (s[pos]'hlt).toNat - 48 := ⟨_, rfl⟩
        rw [← hdg] at hvs
        have hdg2 : ((s[pos]'hlt).toNat : Int) - 48 = (dg : Int) := by omega
        obtain ⟨k1, k2, k3, k4⟩ := digit_step y hy dg (by omega) (by rw [← hvs]; exact hle)
        have HT := Lib.hid (fun w => times_any y 10 w hy (by unfold wd; omega))
        have HPL := Lib.hid (fun w => plus_any (timesW y 10) (dg : Int) w (timesW_ok y 10) (by unfold wd; omega))
        rw [k1] at HT
        rw [k2] at HPL
        have HVS := Lib.hid hvs
        have HOK := Lib.hid k3
        have HNV := Lib.hid k4
        have hsz2 : (wr.iterAt (w.heap.size + 1 + 1) s (pos + 1)).heap.size = wr.heap.size := Lib.iterAt_size _ _ _ _
        have HBi := Lib.hid (Lib.below_iterAt hbl (show w.heap.size ≤ w.heap.size + 1 + 1 by omega) s (pos + 1))
        have HITi := Lib.hid (Lib.iterAt_heap wr (w.heap.size + 1 + 1) s pos (pos + 1) hit)
        have HZi := Lib.hid (hz.iterAt (k := w.heap.size + 1 + 1) (by omega) s (pos + 1))
        have HYi := Lib.hid (hyc.iterAt (k := w.heap.size + 1 + 1) (by omega) s (pos + 1))
        have HS2 := Lib.hid hsz2
        obtain ⟨c0, c1, c2, _, _, _⟩ := HYi.out
        generalize timesW y 10 = ty at *
        generalize plusW ty (dg : Int) = py at *
        clear hit hbl hz hyc hval hy hdg htk hvs hle k1 k2 k3 k4 hdig hsz2
        go_wp2_with (fail)
        go_at_call 80
        refine (HT.out _).mono ?_
        rintro e w1 ⟨rfl, hb1⟩
        have hz1 := hb1.size
        rw [HS2.out] at hz1
        have HZ1 := Lib.hid (HZi.out.below hb1 (by rw [HS2.out]; omega))
        have HY1 := Lib.hid (HYi.out.below hb1 (by rw [HS2.out]; omega))
        have HI1 := Lib.hid ((hb1.block (w.heap.size + 1 + 1) (by rw [HS2.out]; omega)).trans HITi.out)
        have HB1 := Lib.hid (below_then HBi.out HBi.out.size hb1)
        clear hb1 c0 c1 c2
        go_wp2_with (fail)
        go_at_call 91
        refine (HPL.out _).mono ?_
        rintro e w2 ⟨rfl, hb2⟩
        have hz2 := hb2.size
        simp at hz2
        have X2 : W3c (w1.alloc (.cells #[.int .u32 ty.a, .int .u32 ty.b, .int .u32 ty.c] 95)) w1.heap.size ty.a ty.b ty.c := ⟨by go_simp, by go_simp, by go_simp, by go_simp, by go_simp, by go_simp⟩
        have hba := blw_alloc (Below.refl w1.heap.size w1) (.cells #[.int .u32 ty.a, .int .u32 ty.b, .int .u32 ty.c] 95)
        have hb12 := hba.trans (hb2.mono (show w1.heap.size ≤ _ by simp))
        have HZ2 := Lib.hid (HZ1.out.below hb12 (by omega))
        have HY2 := Lib.hid (HY1.out.below hb12 (by omega))
        have HI2 := Lib.hid ((hb12.block (w.heap.size + 1 + 1) (by omega)).trans HI1.out)
        have HB2 := Lib.hid (below_then HB1.out HB1.out.size hb12)
        obtain ⟨x0, x1, x2, g0, g1, g2⟩ := X2.below hb2 (by simp)
        obtain ⟨y0, y1, y2, e0, e1, e2⟩ := HY2.out
        obtain ⟨z0, z1, z2, i0, i1, i2⟩ := HZ2.out
        have lt1 : w.heap.size + 1 < w1.heap.size := by omega
        have lt2 : w.heap.size + 1 + 1 < w1.heap.size := by omega
        clear hb2 hba hb12 X2
        have HX2 := Lib.hid (⟨x0, x1, x2, g0, g1, g2⟩ : W3c w2 w1.heap.size _ _ _)
        go_wp2_with (fail)
        have HW := Lib.hid (below_set3 (below_set3 HB2.out (show w.heap.size ≤ w1.heap.size by omega) py.a py.b py.c) (show w.heap.size ≤ w.heap.size + 1 by omega) py.a py.b py.c)
        have hIT := (set3_heap (set3 w2 w1.heap.size py.a py.b py.c) (w.heap.size + 1) (w.heap.size + 1 + 1) (by omega) py.a py.b py.c).trans ((set3_heap w2 w1.heap.size (w.heap.size + 1 + 1) (by omega) py.a py.b py.c).trans HI2.out)
        have HITF := Lib.hid hIT
        have HIP := Lib.hid (iterPos_of hIT)
        have HIO := Lib.hid (iterPos_of HIT.out)
        clear x0 x1 x2 g0 g1 g2 y0 y1 y2 e0 e1 e2 z0 z1 z2 i0 i1 i2 hIT
        show _ ∧ _ - (set3 (set3 w2 w1.heap.size py.a py.b py.c) (w.heap.size + 1) py.a py.b py.c).iterPos (w.heap.size + 1 + 1) < _ - wr.iterPos (w.heap.size + 1 + 1)
        rw [HIP.out, HIO.out]
        refine ⟨⟨pos + 1, py, by omega, rfl, HOK.out, by rw [HNV.out, HVS.out], HITF.out, HW.out, ?_, (HZ2.out.far (by omega) _ _ _).far (by omega) _ _ _, ?_⟩, by omega⟩
        · show _ < (set3 (set3 w2 w1.heap.size py.a py.b py.c) (w.heap.size + 1) py.a py.b py.c).heap.size
          rw [set3_size, set3_size]
          omega
        · exact (HY2.out.far (show w.heap.size + 1 ≠ w1.heap.size by omega) py.a py.b py.c).put py.a py.b py.c
      · obtain rfl : pos = s.size := by omega
        rw [List.take_of_length_le (by rw [bytes_len]; exact Nat.le_refl _)] at hval
        have hwo := wOf_eq hy
        rw [hval] at hwo
        have HWO := Lib.hid hwo
        have hnx : ∀ ty, (Instr.next (.pointer (some ⟨w.heap.size + 1 + 1, 0, none⟩)) true ty).run Tryd.prog wr = _ := fun ty => Lib.run_next_end_at wr (w.heap.size + 1 + 1) s s.size ty hit hlt
        obtain ⟨y0, y1, y2, e0, e1, e2⟩ := hyc
        obtain ⟨z0, z1, z2, i0, i1, i2⟩ := hz
        clear hit hbl hval hwo hy HVAL
        go_wp2
        refine bodyPost_ret (v := .tuple #[.agg #[.int .u32 y.a, .int .u32 y.b, .int .u32 y.c], .int .i64 0]) (by simp [results, Tryd.results40, go_sem, y0, y1, y2, z0, z1, z2]) rfl ⟨by rw [← HWO.out], ?_⟩
        repeat (first | with_reducible exact HB.out | refine Below.setCell ?_ (by exact Nat.le_refl _) _)
end Go.Proofs.YtccjcdecpgigpaaDoor.Read
