/- Contracts: tariff.Price, Most. -/
import Derived.Test.YtfdgjaahmbjnpaaBill
import Derived.Sort.QuietIn
namespace Go.Proofs.Ytfdgjaahmbjnpaa.Tar
open Go.RowKit Go.Shelf Go.Proofs.Ytfdgjaahmbjnpaa.Base Go.Proofs.Ytfdgjaahmbjnpaa.Rng
set_option linter.unusedVariables false
set_option linter.unusedSimpArgs false
set_option maxRecDepth 20000
attribute [local go_sem] Oper.semAt_some
theorem cost_bound : ∀ (l : List Ln), (∀ x ∈ l, 0 ≤ x.cost ∧ x.cost ≤ 209715100000) → 0 ≤ costL l ∧ costL l ≤ 209715100000 * l.length
  | [], _ => by simp [costL]
  | x :: l, h => by
    have h1 := cost_bound l (fun y hy => h y (List.mem_cons_of_mem _ hy))
    have h2 := h x (List.mem_cons_self ..)
    have h3 : costL (x :: l) = x.cost + costL l := rfl
    rw [h3, List.length_cons]
    omega
theorem bill_cost_ok (t : List Stp) (lo a u : Int) (h : TG lo t) (hu : 0 ≤ u) (hu2 : u ≤ 2097151) : ∀ x ∈ billL t a u, 0 ≤ x.cost ∧ x.cost ≤ 209715100000 := by
  intro x hx
  obtain ⟨q1, q2, q3, q4, q5⟩ := bill_lines t lo a u h hu x hx
  rw [q3]
  have h1 := Int.mul_nonneg (show 0 ≤ x.units by omega) (show 0 ≤ x.price by omega)
  have h2 : x.units * x.price ≤ 2097151 * 100000 := Int.mul_le_mul (by omega) q5 (by omega) (by omega)
  exact ⟨h1, by omega⟩
theorem most_cons (m : Int) (x : Int × Int) (t : List (Int × Int)) (u p : Int) : mostP m (x :: t) u p = if min (min x.1 ((m - p) / x.2)) (2097151 - u) < x.1 then (u + min (min x.1 ((m - p) / x.2)) (2097151 - u), p + min (min x.1 ((m - p) / x.2)) (2097151 - u) * x.2)
    else mostP m t (u + min (min x.1 ((m - p) / x.2)) (2097151 - u)) (p + min (min x.1 ((m - p) / x.2)) (2097151 - u) * x.2) := rfl
theorem price_any (ts : List Stp) (A : Option Addr) (q : Nat) (f u : Int) (w : World) (hr : RdE 2 Stp.enc w A ts) (hT : TG 0 ts) (h1 : 1 ≤ ts.length) (h8 : ts.length ≤ 8) (f0 : 0 ≤ f) (u0 : 0 ≤ u) (u1 : u ≤ 2097151) (fu : f + u ≤ 10000000) :
    Calls Try.prog 18 #[.slice A ts.length q, .int .i64 f, .int .i64 u] w fun e w' => e = .returned (.tuple #[.int .i64 (costL (billL ts f u)), .int .i64 0]) ∧ Below w.heap.size w w' := by
  have HL := Lib.hid (bill_any ts A q f u w hr hT h1 h8 f0 u0 u1 fu)
  have HC := Lib.hid (bill_cost_ok ts 0 f u hT u0 u1)
  have HN := Lib.hid (show (billL ts f u).length ≤ 8 by have := bill_len ts f u; omega)
  clear hr hT
  generalize billL ts f u = ls at *
  go_enter Try.func18, Try.ntmps18
  go_wp2_with (fail)
  go_at_call 39
  refine HL.out.mono ?_
  rintro e w1 ⟨D, dq, rfl, ho, hb⟩
  have HR := Lib.hid ho.read
  have HB := Lib.hid hb
  have hmx := ho.read.1
  have hn := HN.out
  clear ho hb
  go_wp2_with (fail)
  go_loopg [10, 22] ls.length (fun n s i wr => ∃ k : Nat, n = ls.length - k ∧ k ≤ ls.length ∧ s = .int .i64 (costL (ls.take k)) ∧ i = .int .i64 (k : Int) ∧ Below w1.heap.size w1 wr)
  case atStart => exact ⟨0, rfl, by omega, rfl, rfl, Below.refl _ _⟩
  case round =>
    obtain ⟨k, hgk, hk, rfl, rfl, hbl⟩ := hrel
    have HG := Lib.hid hgk
    have HBW := Lib.hid hbl
    clear hgk hbl
    by_cases hlt : k < ls.length
    · obtain ⟨ad, hae, x0, x1, x2⟩ := (HR.out.below HBW.out).at3 k hlt _ _ _ rfl
      subst hae
      have hb1 := cost_bound (ls.take k) (fun y hy => HC.out y (List.mem_of_mem_take hy))
      have hb2 := HC.out _ (List.getElem_mem hlt)
      have hlen : (ls.take k).length ≤ 8 := by simp; omega
      have HS := Lib.hid (show costL (ls.take (k + 1)) = costL (ls.take k) + ls[k].cost by
        rw [List.take_succ_eq_append_getElem hlt]
        unfold costL
        rw [List.map_append, List.sum_append]
        simp only [List.map_cons, List.map_nil, List.sum_cons, List.sum_nil]
        omega)
      generalize costL (ls.take k) = s at *
      generalize ls[k].cost = c at *
      generalize ls[k].units = c1 at *
      generalize ls[k].price = c2 at *
      have hk0 : (0 : Int) ≤ (k : Int) := by omega
      have hk1 : (k : Int) < (ls.length : Int) := by omega
      go_wp2_with (fail)
      go_roundg (ls.length - (k + 1))
      case measure => have := HG.out; omega
      case rel => exact ⟨k + 1, rfl, by omega, by rw [HS.out], by first | rfl | go_num, blw_alloc HBW.out _⟩
    · obtain rfl : k = ls.length := by omega
      rw [List.take_length]
      have hge : ¬ ((ls.length : Int) < (ls.length : Int)) := by omega
      go_wp2_with (fail)
      go_ret2
      exact ⟨rfl, below_then' HB.out HBW.out⟩
/-- The most, when k pieces are over. -/
structure MostSt (P : List (Int × Int)) (m : Int) (M U R base B0 : Nat) (w0 : World) (k : Nat) (W : World) (un pr : Int) : Prop where
  n0 : 0 ≤ un
  n1 : un ≤ 2097151
  p0 : 0 ≤ pr
  p1 : pr ≤ m
  bM : Boxed W M 3 (.int .i64 m)
  bU : Boxed W U 3 (.int .i64 un)
  bR : Boxed W R 3 (.int .i64 pr)
  bel : Below B0 w0 W
  eq : mostP m (P.drop k) un pr = mostP m P 0 0
  siz : base ≤ W.heap.size
theorem MostSt.kept {P : List (Int × Int)} {m : Int} {M U R base B0 F : Nat} {w0 : World} {k : Nat} {A B : World} {row : Option Nat} {un pr : Int} (h : MostSt P m M U R base B0 w0 k A un pr) (hg : A.grownBy B row)
    (hr : ∀ r, row = some r → r = F ∨ (base ≤ r ∧ ∃ o : Obj, A.heap[r]? = some o ∧ o.isCells = false)) (hM : M < F) (hU : U < F) (hR : R < F) (hF : F < base) (hB : B0 ≤ F) (hw : B0 ≤ w0.heap.size) : MostSt P m M U R base B0 w0 k B un pr := by
  have ne : ∀ x, x < F → some x ≠ row := by
    intro x hx e
    rcases hr x e.symm with h1 | ⟨h1, _⟩ <;> omega
  refine ⟨h.n0, h.n1, h.p0, h.p1, h.bM.kept hg (ne M hM), h.bU.kept hg (ne U hU), h.bR.kept hg (ne R hR), h.bel.grown hg (Nat.le_trans hw h.bel.size) ?_, h.eq, Nat.le_trans h.siz hg.size⟩
  intro r e
  rcases hr r e with h1 | ⟨h1, _⟩ <;> omega
set_option maxHeartbeats 4000000 in
theorem most_any (ts : List Stp) (A : Option Addr) (q : Nat) (f m : Int) (w : World) (hr : RdE 2 Stp.enc w A ts) (hT : TG 0 ts) (h1 : 1 ≤ ts.length) (h8 : ts.length ≤ 8) (f0 : 0 ≤ f) (f1 : f ≤ 10000000) (m0 : 0 ≤ m) (m1 : m ≤ 1000000000000) :
    Calls Try.prog 68 #[.slice A ts.length q, .int .i64 f, .int .i64 m] w fun e w' => e = .returned (.tuple #[.int .i64 (mostL m ts f 0 0).1, .int .i64 (mostL m ts f 0 0).2, .int .i64 0]) ∧ Below w.heap.size w w' := by
  have HR := Lib.hid hr
  have HT := Lib.hid hT
  have HA := Lib.hid (show ∀ ad, A = some ad → ad.block < w.heap.size by
    intro ad' e
    obtain ⟨ad2, e2, hc, _⟩ := hr.at2 0 (by omega) _ _ rfl
    rw [e] at e2
    cases e2
    have := World.block_lt_of_cell? w _ hc
    simpa [add_block] using this)
  have am0 : decide (m < 0) = false := decide_eq_false (by omega)
  have am1 : decide (1000000000000 < m) = false := decide_eq_false (by omega)
  clear hr hT
  refine callsIn_wide.1 (callsIn_of_wp_marks (F := Fence.wide) (n := 0) Try.func68 rfl trivial ?_ rfl)
  simp only [Try.ntmps68, List.size_toArray, List.length_cons, List.length_nil, Nat.reduceAdd, Nat.reduceSub, Array.replicate_succ, Array.replicate_zero, List.push_toArray, List.append_toArray, List.nil_append, List.cons_append]
  refine wpIn_wide.2 ?_
  go_wp2_with (fail)
  go_at_call 69
  refine (asked_any ts A q f 0 _ (HR.out.below (blw_alloc (blw_alloc (blw_alloc (Below.refl _ _) _) _) _)) HT.out h1 h8 f0 (by omega) (by omega) (by omega)).mono ?_
  rintro e w1 ⟨rfl, hb⟩
  have hz1 := hb.size
  simp only [World.size_alloc] at hz1
  have HB1 := Lib.hid (below_then' (blw_alloc (blw_alloc (blw_alloc (Below.refl _ _) _) _) _) hb)
  have hs2 : (w.alloc (.cells #[.int .i64 m] 3)).heap.size = w.heap.size + 1 := World.size_alloc _ _
  have hs3 : ((w.alloc (.cells #[.int .i64 m] 3)).alloc (.cells #[.int .i64 0] 3)).heap.size = w.heap.size + 1 + 1 := by rw [World.size_alloc, hs2]
  have BM := Lib.hid (Boxed.out ((Boxed.new w 3 (.int .i64 m)).alloc _ |>.alloc _) hb)
  have BU := Lib.hid (show Boxed w1 (w.heap.size + 1) 3 (.int .i64 0) from Boxed.out ((hs2 ▸ Boxed.new (w.alloc (.cells #[.int .i64 m] 3)) 3 (.int .i64 0) : Boxed _ (w.heap.size + 1) _ _).alloc _) hb)
  have BR := Lib.hid (show Boxed w1 (w.heap.size + 1 + 1) 3 (.int .i64 0) from Boxed.out (hs3 ▸ Boxed.new ((w.alloc (.cells #[.int .i64 m] 3)).alloc (.cells #[.int .i64 0] 3)) 3 (.int .i64 0) : Boxed _ (w.heap.size + 1 + 1) _ _) hb)
  clear hb hs2 hs3
  have hcM := BM.out.cell
  go_wp2_with (fail)
  go_at_call 70
  refine (pieces_any _ _ _ _ _).mono ?_
  rintro e w2 ⟨rfl, rfl⟩
  go_wp2_with (fail)
  have HPN := Lib.hid (show (pieceL ts f).length ≤ 8 by have := piece_len ts f; omega)
  have HPK := Lib.hid (piece_ok ts 0 f HT.out (by omega) f0)
  have hs2 : (w1.alloc (.cells #[.slice A ts.length q] 55)).heap.size = w1.heap.size + 1 := World.size_alloc _ _
  have hs4 : ((w1.alloc (.cells #[.slice A ts.length q] 55)).alloc (.cells #[.int .i64 f] 3)).heap.size = w1.heap.size + 1 + 1 := by rw [World.size_alloc, hs2]
  have HBW := Lib.hid (show Below w.heap.size w ((w1.alloc (.cells #[.slice A ts.length q] 55)).alloc (.cells #[.int .i64 f] 3)) from blw_alloc (blw_alloc HB1.out _) _)
  have CT := Lib.hid (show Cs ((w1.alloc (.cells #[.slice A ts.length q] 55)).alloc (.cells #[.int .i64 f] 3)) w1.heap.size [.slice A ts.length q] from (Cs.new rfl).alloc _)
  have CF := Lib.hid (show Cs ((w1.alloc (.cells #[.slice A ts.length q] 55)).alloc (.cells #[.int .i64 f] 3)) (w1.heap.size + 1) [.int .i64 f] from Cs.new hs2.symm)
  have BM2 := Lib.hid (show Boxed ((w1.alloc (.cells #[.slice A ts.length q] 55)).alloc (.cells #[.int .i64 f] 3)) w.heap.size 3 (.int .i64 m) from (BM.out.alloc _).alloc _)
  have BU2 := Lib.hid (show Boxed ((w1.alloc (.cells #[.slice A ts.length q] 55)).alloc (.cells #[.int .i64 f] 3)) (w.heap.size + 1) 3 (.int .i64 0) from (BU.out.alloc _).alloc _)
  have BR2 := Lib.hid (show Boxed ((w1.alloc (.cells #[.slice A ts.length q] 55)).alloc (.cells #[.int .i64 f] 3)) (w.heap.size + 1 + 1) 3 (.int .i64 0) from (BR.out.alloc _).alloc _)
  have HMP := Lib.hid (most_piece m ts f 0 0)
  clear BM BU BR HB1 hcM
  generalize ((w1.alloc (.cells #[.slice A ts.length q] 55)).alloc (.cells #[.int .i64 f] 3)) = w2 at *
  generalize w1.heap.size = T at *
  obtain ⟨M, hM⟩ : ∃ M, M = w.heap.size := ⟨_, rfl⟩
  refine (wpIn_wide (n := 0)).1 ?_
  refine range_law (gf := 106) (lb := #[.pointer (some ⟨T, 0, none⟩), .pointer (some ⟨T + 1, 0, none⟩)]) rfl (enters_of Try.func106 (by kernel_rfl) rfl)
    (pieces_rounds ts A q w.heap.size T (T + 1) f w2 HT.out h8 f0 (by omega) (HR.out.below HBW.out) HA.out (by omega) (by omega) (by omega) CT.out CF.out) (by omega) (fun _ => rfl) (fun h k => KpT.t h k) (KpT.b (by omega) (by omega) (by omega))
    (fun k W => ∃ un pr, MostSt (pieceL ts f) m w.heap.size (w.heap.size + 1) (w.heap.size + 1 + 1) w2.heap.size w.heap.size w k W un pr)
    (fun c W => c = .exit 0 ∧ ∃ un pr, Boxed W (w.heap.size + 1) 3 (.int .i64 un) ∧ Boxed W (w.heap.size + 1 + 1) 3 (.int .i64 pr) ∧ Below w.heap.size w W ∧ (un, pr) = mostP m (pieceL ts f) 0 0)
    (fun k => { tmps := #[.slice A ts.length q, .int .i64 f, .int .i64 m, undef, undef, .pointer (some ⟨w.heap.size, 0, none⟩), .pointer (some ⟨w.heap.size + 1, 0, none⟩), .pointer (some ⟨w.heap.size + 1 + 1, 0, none⟩), .int .i64 0, .int .i64 0, .int .i64 ((pieceL ts f)[k]?.getD (0, 0)).1, .int .i64 ((pieceL ts f)[k]?.getD (0, 0)).2, undef, .slice A ts.length q, .int .i64 f, .int .i64 0, .int .i64 0, .bool false, undef, .int .i64 m, .bool false, .bool false, .int .i64 m, .bool false, .bool false, .slice A ts.length q, .int .i64 f,
      .func (.func 106) #[] #[.pointer (some ⟨T, 0, none⟩), .pointer (some ⟨T + 1, 0, none⟩)], .int .i64 ((pieceL ts f)[k]?.getD (0, 0)).1, .int .i64 ((pieceL ts f)[k]?.getD (0, 0)).2, undef, undef, undef, undef, undef, undef, undef, undef, undef, undef, undef, undef, undef, undef, undef, undef, undef, undef, undef, undef, undef, undef], defers := [] }) ?cJ ?cX ?c0 ?assign ?body ?done ?stop
  case cJ =>
    rintro k X Y row ⟨un, pr, h⟩ hg hr
    exact ⟨un, pr, h.kept (F := T + 1) hg hr (by omega) (by omega) (by omega) (by omega) (by omega) (Nat.le_refl _)⟩
  case cX =>
    rintro c X Y row ⟨rfl, un, pr, h2, h3, h4, h5⟩ hg hr
    exact ⟨rfl, un, pr, h2.kept hg (fun e => by have := (hr _ e.symm).1; omega), h3.kept hg (fun e => by have := (hr _ e.symm).1; omega), h4.grown hg h4.size (fun r e => by have := (hr r e).1; omega), h5⟩
  case c0 => exact ⟨0, 0, by omega, by omega, by omega, m0, BM2.out, BU2.out, BR2.out, HBW.out, rfl, Nat.le_refl _⟩
  case assign =>
    intro l k W K hK
    simp only [encP]
    gi_wp2
    exact hK
  case body =>
    rintro l k W ⟨un, pr, hst⟩ hk
    have HS := Lib.hid hst
    have hx1 : (pieceL ts f)[k]?.getD (0, 0) = (pieceL ts f)[k] := by rw [List.getElem?_eq_getElem hk]; rfl
    have HDR := Lib.hid (show (pieceL ts f).drop k = (pieceL ts f)[k] :: (pieceL ts f).drop (k + 1) from List.drop_eq_getElem_cons hk)
    obtain ⟨⟨x0, x1⟩, x2, x3⟩ := HPK.out _ (List.getElem_mem hk)
    have n0 := hst.n0
    have n1 := hst.n1
    have p0 := hst.p0
    have p1 := hst.p1
    have hcM := hst.bM.cell
    have hcU := hst.bU.cell
    have hfU := hst.bU.frozen
    have hcR := hst.bR.cell
    have hfR := hst.bR.frozen
    rw [hx1]
    clear hst hx1
    generalize (pieceL ts f)[k] = x at *
    obtain ⟨xl, xp⟩ := x
    simp only at x0 x1 x2 x3 ⊢
    have hxp : (xp == 0) = false := beq_eq_false_iff_ne.mpr (by omega)
    gi_wp2
    refine region_round (by kernel_rfl) (by kernel_rfl) (by kernel_rfl) ?_
    repeat (gi_big_quiet_step (fail))
    refine wpQuietIn_nil ?_
    rintro _ ⟨nq, rfl⟩
    obtain ⟨n, hn⟩ : ∃ n, n = (if 2097151 - un < if (m - pr) / xp < xl then (m - pr) / xp else xl then 2097151 - un else if (m - pr) / xp < xl then (m - pr) / xp else xl) := ⟨_, rfl⟩
    rw [← hn]
    have hq0 : 0 ≤ (m - pr) / xp := Int.ediv_nonneg (by omega) (by omega)
    have hq1 : (m - pr) / xp * xp ≤ m - pr := Int.ediv_mul_le _ (by omega)
    have hmin : n = min (min xl ((m - pr) / xp)) (2097151 - un) := by rw [hn]; omega
    have HMN := Lib.hid hmin
    have hn0 : 0 ≤ n := by omega
    have hnl : n ≤ xl := by omega
    have hnu : un + n ≤ 2097151 := by omega
    have hnm : n * xp ≤ m - pr := Int.le_trans (Int.mul_le_mul_of_nonneg_right (by omega) (by omega)) hq1
    have hnp : 0 ≤ n * xp := Int.mul_nonneg hn0 (by omega)
    clear hn hmin hq0 hq1
    have HS2 := Lib.hid (show MostSt (pieceL ts f) m w.heap.size (w.heap.size + 1) (w.heap.size + 1 + 1) w2.heap.size w.heap.size w k (W.drewN nq) un pr from ⟨HS.out.n0, HS.out.n1, HS.out.p0, HS.out.p1, HS.out.bM, HS.out.bU, HS.out.bR, blw_step HS.out.bel _, HS.out.eq, HS.out.siz⟩)
    have KD := Lib.hid (show KeepsOthers W (W.drewN nq) from ⟨Nat.le_refl _, fun _ _ h _ => h⟩)
    have PD := Lib.hid (show KpT w.heap.size T (T + 1) W (W.drewN nq) from ⟨Nat.le_refl _, fun _ _ => rfl⟩)
    clear HS hcM hcU hfU hcR hfR
    generalize W.drewN nq = W2 at *
    have hcU := HS2.out.bU.cell
    have hfU := HS2.out.bU.frozen
    have hcR := HS2.out.bR.cell
    have hfR := HS2.out.bR.frozen
    have hsz := HS2.out.siz
    have hw1 : wrap64 (n * xp) = n * xp := by unfold wrap64; omega
    have HB4 := Lib.hid (show Boxed ((W2.setCell ⟨w.heap.size + 1, 0, none⟩ (.int .i64 (un + n))).setCell ⟨w.heap.size + 1 + 1, 0, none⟩ (.int .i64 (pr + n * xp))) w.heap.size 3 (.int .i64 m) ∧ Boxed ((W2.setCell ⟨w.heap.size + 1, 0, none⟩ (.int .i64 (un + n))).setCell ⟨w.heap.size + 1 + 1, 0, none⟩ (.int .i64 (pr + n * xp))) (w.heap.size + 1) 3 (.int .i64 (un + n)) ∧
      Boxed ((W2.setCell ⟨w.heap.size + 1, 0, none⟩ (.int .i64 (un + n))).setCell ⟨w.heap.size + 1 + 1, 0, none⟩ (.int .i64 (pr + n * xp))) (w.heap.size + 1 + 1) 3 (.int .i64 (pr + n * xp)) ∧ Below w.heap.size w ((W2.setCell ⟨w.heap.size + 1, 0, none⟩ (.int .i64 (un + n))).setCell ⟨w.heap.size + 1 + 1, 0, none⟩ (.int .i64 (pr + n * xp))) ∧
      KeepsOthers W ((W2.setCell ⟨w.heap.size + 1, 0, none⟩ (.int .i64 (un + n))).setCell ⟨w.heap.size + 1 + 1, 0, none⟩ (.int .i64 (pr + n * xp))) ∧ KpT w.heap.size T (T + 1) W ((W2.setCell ⟨w.heap.size + 1, 0, none⟩ (.int .i64 (un + n))).setCell ⟨w.heap.size + 1 + 1, 0, none⟩ (.int .i64 (pr + n * xp))) from
      ⟨box_other (box_other HS2.out.bM (by omega) _) (by omega) _, box_other (HS2.out.bU.set _) (by omega) _, (box_other HS2.out.bR (by omega) _).set _, (HS2.out.bel.setCell (p := ⟨w.heap.size + 1, 0, none⟩) (by show _ ≤ w.heap.size + 1; omega) _).setCell (p := ⟨w.heap.size + 1 + 1, 0, none⟩) (by show _ ≤ w.heap.size + 1 + 1; omega) _,
        (KD.out.trans (KeepsOthers.setCell _ _ _)).trans (KeepsOthers.setCell _ _ _), (PD.out.t (KpT.box HS2.out.bU (.int .i64 (un + n)) (by decide) (by omega) (by omega) (by omega) (by omega) (by omega) (by omega))).t (KpT.box (box_other HS2.out.bR (by omega) (.int .i64 (un + n))) _ (by decide) (by omega) (by omega) (by omega) (by simp; omega) (by simp; omega) (by simp; omega))⟩)
    by_cases c : n < xl
    · gi_wp2
      refine ⟨HB4.out.2.2.2.2.1, rfl, un + n, pr + n * xp, HB4.out.2.1, HB4.out.2.2.1, HB4.out.2.2.2.1, ?_⟩
      have := HS2.out.eq
      rw [HDR.out, most_cons, ← HMN.out, if_pos c] at this
      exact this
    · gi_wp2
      refine ⟨HB4.out.2.2.2.2.1, HB4.out.2.2.2.2.2, un + n, pr + n * xp, by omega, hnu, by omega, by omega, HB4.out.1, HB4.out.2.1, HB4.out.2.2.1, HB4.out.2.2.2.1, ?_, by simp; omega⟩
      have := HS2.out.eq
      rw [HDR.out, most_cons, ← HMN.out, if_neg (by omega)] at this
      exact this
  case done =>
    rintro D W hD ⟨un, pr, hst⟩ hK
    have heq := hst.eq
    rw [List.drop_length] at heq
    simp only [mostP] at heq
    rw [← most_piece] at heq
    have HE := Lib.hid heq
    have HQ := Lib.hid hst.bel
    have hcU := hst.bU.cell
    have hfU := hst.bU.frozen
    have hcR := hst.bR.cell
    have hfR := hst.bR.frozen
    have hsz := hst.siz
    have HST := Lib.hid hst
    clear heq hst
    have HK := Lib.hid hK
    clear hK
    have HU := Lib.hid HST.out.bU
    have HRR := Lib.hid HST.out.bR
    go_wp2
    go_region
    have h5 : ∀ W5, W5 = ((W.setCell ⟨w.heap.size + 1, 0, none⟩ (.int .i64 un)).setCell ⟨w.heap.size + 1 + 1, 0, none⟩ (.int .i64 pr)).drew → Boxed W5 (w.heap.size + 1) 3 (.int .i64 un) ∧ Boxed W5 (w.heap.size + 1 + 1) 3 (.int .i64 pr) ∧ W5.heap[D]? = some (.deferred (some [])) ∧ Below w.heap.size w W5 := by
      rintro W5 rfl
      refine ⟨box_other (HU.out.set _) (by omega) _, (box_other HRR.out (by omega) _).set _, ?_, ((HQ.out.setCell (p := ⟨w.heap.size + 1, 0, none⟩) (by show _ ≤ w.heap.size + 1; omega) _).setCell (p := ⟨w.heap.size + 1 + 1, 0, none⟩) (by show _ ≤ w.heap.size + 1 + 1; omega) _).drew⟩
      exact (KeepsOthers.setCell _ _ _).same _ _ ((KeepsOthers.setCell _ _ _).same _ _ HK.out rfl) rfl
    generalize ((W.setCell ⟨w.heap.size + 1, 0, none⟩ (.int .i64 un)).setCell ⟨w.heap.size + 1 + 1, 0, none⟩ (.int .i64 pr)).drew = W5 at *
    obtain ⟨b1, b2, b3, b4⟩ := h5 W5 rfl
    have B1 := Lib.hid b1
    have B2 := Lib.hid b2
    have B3 := Lib.hid b3
    have B4 := Lib.hid b4
    clear h5 b1 b2 b3 b4 hcU hfU hcR hfR
    go_wp2
    have nD1 : w.heap.size + 1 ≠ D := by omega
    have nD2 : w.heap.size + 1 + 1 ≠ D := by omega
    refine ⟨by simp, .inl ⟨_, _, rfl, run_takeDeferred B3.out, ?_⟩⟩
    have q1 : (W5.putObj D (.deferred none)).cell? ⟨w.heap.size + 1, 0, none⟩ = some (.int .i64 un) := (World.cell?_of_block (World.putObj_heap_other nD1)).trans B1.out.cell
    have q2 : (W5.putObj D (.deferred none)).cell? ⟨w.heap.size + 1 + 1, 0, none⟩ = some (.int .i64 pr) := (World.cell?_of_block (World.putObj_heap_other nD2)).trans B2.out.cell
    refine ⟨.tuple #[.int .i64 un, .int .i64 pr, .int .i64 0], by simp [results, Try.results68, go_sem, q1, q2], by rw [← HE.out], B4.out.grown (grownBy_putObj' _ _ _) B4.out.size (by intro k e; cases e; omega)⟩
  case stop =>
    rintro D c W hD ⟨rfl, un, pr, h2, h3, h4, h5⟩ hK
    rw [← most_piece] at h5
    have HE := Lib.hid h5
    have HQ := Lib.hid h4
    have hcU := h2.cell
    have hfU := h2.frozen
    have hcR := h3.cell
    have hfR := h3.frozen
    have hsz := h3.lt
    have HU := Lib.hid h2
    have HRR := Lib.hid h3
    have HK := Lib.hid hK
    clear h2 h3 h4 h5 hK
    refine wpIn_wide.2 ?_
    go_wp2
    go_region
    have h5 : ∀ W5, W5 = ((W.setCell ⟨w.heap.size + 1, 0, none⟩ (.int .i64 un)).setCell ⟨w.heap.size + 1 + 1, 0, none⟩ (.int .i64 pr)).drew → Boxed W5 (w.heap.size + 1) 3 (.int .i64 un) ∧ Boxed W5 (w.heap.size + 1 + 1) 3 (.int .i64 pr) ∧ W5.heap[D]? = some (.deferred (some [])) ∧ Below w.heap.size w W5 := by
      rintro W5 rfl
      refine ⟨box_other (HU.out.set _) (by omega) _, (box_other HRR.out (by omega) _).set _, ?_, ((HQ.out.setCell (p := ⟨w.heap.size + 1, 0, none⟩) (by show _ ≤ w.heap.size + 1; omega) _).setCell (p := ⟨w.heap.size + 1 + 1, 0, none⟩) (by show _ ≤ w.heap.size + 1 + 1; omega) _).drew⟩
      exact (KeepsOthers.setCell _ _ _).same _ _ ((KeepsOthers.setCell _ _ _).same _ _ HK.out rfl) rfl
    generalize ((W.setCell ⟨w.heap.size + 1, 0, none⟩ (.int .i64 un)).setCell ⟨w.heap.size + 1 + 1, 0, none⟩ (.int .i64 pr)).drew = W5 at *
    obtain ⟨b1, b2, b3, b4⟩ := h5 W5 rfl
    have B1 := Lib.hid b1
    have B2 := Lib.hid b2
    have B3 := Lib.hid b3
    have B4 := Lib.hid b4
    clear h5 b1 b2 b3 b4 hcU hfU hcR hfR
    go_wp2
    have nD1 : w.heap.size + 1 ≠ D := by omega
    have nD2 : w.heap.size + 1 + 1 ≠ D := by omega
    refine ⟨by simp, .inl ⟨_, _, rfl, run_takeDeferred B3.out, ?_⟩⟩
    have q1 : (W5.putObj D (.deferred none)).cell? ⟨w.heap.size + 1, 0, none⟩ = some (.int .i64 un) := (World.cell?_of_block (World.putObj_heap_other nD1)).trans B1.out.cell
    have q2 : (W5.putObj D (.deferred none)).cell? ⟨w.heap.size + 1 + 1, 0, none⟩ = some (.int .i64 pr) := (World.cell?_of_block (World.putObj_heap_other nD2)).trans B2.out.cell
    refine ⟨.tuple #[.int .i64 un, .int .i64 pr, .int .i64 0], by simp [results, Try.results68, go_sem, q1, q2], by rw [← HE.out], B4.out.grown (grownBy_putObj' _ _ _) B4.out.size (by intro k e; cases e; omega)⟩
end Go.Proofs.Ytfdgjaahmbjnpaa.Tar
