/- Contracts: tariff.asked, Bill, Price, Most. -/
import Derived.Test.YtfdgjaahmbjnpaaPieces
import Derived.Shelf.Abstract
namespace Go.Proofs.Ytfdgjaahmbjnpaa.Tar
open Go.RowKit Go.Shelf Go.Proofs.Ytfdgjaahmbjnpaa.Base Go.Proofs.Ytfdgjaahmbjnpaa.Rng
set_option linter.unusedVariables false
set_option linter.unusedSimpArgs false
set_option maxRecDepth 20000
attribute [local go_sem] Oper.semAt_some
theorem asked_any (ts : List Stp) (A : Option Addr) (q : Nat) (f u : Int) (w : World) (hr : RdE 2 Stp.enc w A ts) (hT : TG 0 ts) (h1 : 1 ≤ ts.length) (h8 : ts.length ≤ 8) (f0 : 0 ≤ f) (u0 : 0 ≤ u) (u1 : u ≤ 2097151) (fu : f + u ≤ 10000000) :
    Calls Try.prog 69 #[.slice A ts.length q, .int .i64 f, .int .i64 u] w fun e w' => e = .returned (.int .i64 0) ∧ Below w.heap.size w w' := by
  have HC := Lib.hid (check_any ts A q w hr hT h1 h8)
  have a1 : ¬ f < 0 := by omega
  have a2 : ¬ 10000000 < f := by omega
  have a3 : ¬ u < 0 := by omega
  have a4 : ¬ 2097151 < u := by omega
  have a5 : ¬ 10000000 < f + u := by omega
  clear hr hT
  go_enter Try.func69, Try.ntmps69
  go_wp2_with (fail)
  go_at_call 105
  refine HC.out.mono ?_
  rintro e w1 ⟨rfl, hb⟩
  have HB := Lib.hid hb
  clear hb
  go_wp2_with (fail)
  go_ret
  exact ⟨rfl, HB.out⟩
def Ln.enc (x : Ln) : List Value := [.int .i64 x.units, .int .i64 x.price, .int .i64 x.cost]
theorem info_ln : (Try.prog.info? 116).map (fun i => (i.zero, i.size, i.bytes)) = some (some (.agg #[.int .i64 0, .int .i64 0, .int .i64 0]), 3, 24) := by kernel_rfl
def OwLn (base : Nat) (w : World) (A : Option Addr) (c : Nat) (xs : List Ln) : Prop := w.ownsRow base 116 3 (.slice A xs.length c) xs.length (xs.flatMap Ln.enc)
theorem OwLn.read {base : Nat} {w : World} {A : Option Addr} {c : Nat} {xs : List Ln} (h : OwLn base w A c xs) : RdE 3 Ln.enc w A xs := by
  obtain ⟨A1, c1, he, hr⟩ := own_read (enc := Ln.enc) (fun _ => rfl) (by decide) h
  cases he
  exact hr
theorem OwLn.of {base : Nat} {w : World} {v : Value} {n : Nat} {cs : List Value} {xs : List Ln} (h : w.ownsRow base 116 3 v n cs) (hn : n = xs.length) (hc : cs = xs.flatMap Ln.enc) : ∃ A c, v = .slice A xs.length c ∧ OwLn base w A c xs := by
  subst hn hc
  obtain ⟨A, c, rfl, _⟩ := own_read (enc := Ln.enc) (fun _ => rfl) (by decide) h
  exact ⟨A, c, rfl, h⟩
/-- An owned row abides the turn of a block below its base, or of one that is no cells. -/
theorem own_turned {W W' : World} {row : Option Nat} {base : Nat} {e : TypeId} {k n : Nat} {v : Value} {xs : List Value} (h : W.ownsRow base e k v n xs) (hg : W.grownBy W' row) (hr : ∀ r, row = some r → r < base ∨ ∃ o : Obj, W.heap[r]? = some o ∧ o.isCells = false) : W'.ownsRow base e k v n xs := by
  refine h.kept hg ?_
  rcases h.2 with ⟨rfl, _⟩ | ⟨g, cap, cur, rfl, hb, hgb, _⟩
  · exact .inl rfl
  · refine .inr fun e' => ?_
    rcases hr g (by simpa [Value.ownBlock] using e'.symm) with h1 | ⟨o, ho, hc⟩
    · omega
    · rw [hgb] at ho; cases ho; cases hc
theorem KpT.own {n0 T F : Nat} {W W' : World} {base : Nat} {e : TypeId} {k n : Nat} {v : Value} {xs : List Value} (h : W.ownsRow base e k v n xs) (hg : W.grownBy W' v.ownBlock) (he : e ≠ 118) (h1 : n0 ≤ base) (h2 : T < base) (h3 : F < base) (hs : base ≤ W.heap.size) : KpT n0 T F W W' :=
  KpT.grown hg (by
    intro r hr
    rcases h.2 with ⟨rfl, _⟩ | ⟨g, cap, cur, rfl, hb, hgb, _⟩
    · simp [Value.ownBlock] at hr
    · obtain rfl : g = r := by simpa [Value.ownBlock] using hr
      refine ⟨by omega, by omega, by omega, fun cs fr e' => ?_⟩
      rw [hgb] at e'
      simp at e'
      exact he e'.2.1) (by omega) (by omega) (by omega)
theorem KpT.box {n0 T F : Nat} {W : World} {B : Nat} {t : TypeId} {v : Value} (h : Boxed W B t v) (u : Value) (ht : t ≠ 118) (h1 : n0 ≤ B) (h2 : B ≠ T) (h3 : B ≠ F) (hT : T < W.heap.size) (hF : F < W.heap.size) (hn : n0 ≤ W.heap.size) : KpT n0 T F W (W.setCell ⟨B, 0, none⟩ u) :=
  KpT.grown (grownBy_setCell' W B u) (by
    intro r hr
    cases hr
    refine ⟨h1, h2, h3, fun cs fr e' => ?_⟩
    rw [show W.heap[B]? = _ from h] at e'
    simp at e'
    exact ht e'.2.1) hT hF hn
theorem Boxed.out {W W' : World} {B : Nat} {t : TypeId} {v : Value} (h : Boxed W B t v) (hb : Below W.heap.size W W') : Boxed W' B t v := (hb.block B h.lt).trans h
theorem grew {W w1 : World} {n0 T F base : Nat} {e : TypeId} {size k : Nat} {v : Value} {xs : List Value} {tmp : Obj} (hrow : W.ownsRow base e size v k xs) (hs : base ≤ W.heap.size) (hg : (W.alloc tmp).grownBy w1 v.ownBlock) (he : e ≠ 118) (h1 : n0 ≤ base) (h2 : T < base) (h3 : F < base) :
    KeepsOthers W w1 ∧ Below n0 W w1 ∧ KpT n0 T F W w1 ∧ (∀ B t u, Boxed W B t u → t ≠ e → Boxed w1 B t u) ∧ base ≤ w1.heap.size := by
  have hrow' := hrow.alloc tmp
  have hsz := hg.size
  simp only [World.size_alloc] at hsz
  refine ⟨(KeepsOthers.alloc W tmp).trans (KeepsOthers.of_grownBy hg fun j o ej hj => ?_), ((Below.refl n0 W).alloc (by omega) tmp).grown hg (by simp; omega) fun j ej => ?_, (KpT.alloc tmp (by omega) (by omega) (by omega)).t (KpT.own hrow' hg he h1 h2 h3 (by simp; omega)), fun B t u hb ht => (hb.alloc tmp).kept hg (hb.not_row ht hrow), by omega⟩
  · rcases hrow'.2 with ⟨rfl, _⟩ | ⟨g, cap, cur, rfl, _, hgb, _⟩
    · simp [Value.ownBlock] at ej
    · obtain rfl : g = j := by simpa [Value.ownBlock] using ej
      rw [hgb] at hj; cases hj; rfl
  · rcases hrow'.2 with ⟨rfl, _⟩ | ⟨g, cap, cur, rfl, hb, _, _⟩
    · simp [Value.ownBlock] at ej
    · obtain rfl : g = j := by simpa [Value.ownBlock] using ej
      omega
theorem box_other {W : World} {B C : Nat} {t : TypeId} {v : Value} (h : Boxed W B t v) (hne : B ≠ C) (u : Value) : Boxed (W.setCell ⟨C, 0, none⟩ u) B t v :=
  h.kept (grownBy_setCell' W C u) (by simp [hne])
theorem bill_cons (x : Int × Int) (t : List (Int × Int)) (u : Int) : billP (x :: t) u = if u = 0 then [] else ⟨min x.1 u, x.2, min x.1 u * x.2⟩ :: billP t (u - min x.1 u) := rfl
theorem bill_zero : ∀ t : List (Int × Int), billP t 0 = []
  | [] => rfl
  | _ :: _ => rfl
/-- What is billed when k pieces are over. -/
structure BillSt (P : List (Int × Int)) (u : Int) (U O base B0 : Nat) (w0 : World) (k : Nat) (W : World) (ls : List Ln) (r : Int) (v : Value) : Prop where
  r0 : 0 ≤ r
  r1 : r ≤ 2097151
  bU : Boxed W U 3 (.int .i64 r)
  bO : Boxed W O 112 v
  own : W.ownsRow base 116 3 v ls.length (ls.flatMap Ln.enc)
  bel : Below B0 w0 W
  len : ls.length ≤ k
  eq : ls ++ billP (P.drop k) r = billP P u
  siz : base ≤ W.heap.size
theorem BillSt.kept {P : List (Int × Int)} {u : Int} {U O base B0 F : Nat} {w0 : World} {k : Nat} {A B : World} {row : Option Nat} {ls : List Ln} {r : Int} {v : Value} (h : BillSt P u U O base B0 w0 k A ls r v) (hg : A.grownBy B row)
    (hr : ∀ r, row = some r → r = F ∨ (base ≤ r ∧ ∃ o : Obj, A.heap[r]? = some o ∧ o.isCells = false)) (hU : U < F) (hO : O < F) (hF : F < base) (hB : B0 ≤ F) (hw : B0 ≤ w0.heap.size) : BillSt P u U O base B0 w0 k B ls r v := by
  have ne : ∀ x, x < F → some x ≠ row := by
    intro x hx e
    rcases hr x e.symm with h1 | ⟨h1, _⟩ <;> omega
  refine ⟨h.r0, h.r1, h.bU.kept hg (ne U hU), h.bO.kept hg (ne O hO), own_turned h.own hg ?_, h.bel.grown hg (Nat.le_trans hw h.bel.size) ?_, h.len, h.eq, Nat.le_trans h.siz hg.size⟩
  · intro r e
    rcases hr r e with h1 | ⟨_, h1⟩
    · exact .inl (by omega)
    · exact .inr h1
  · intro r e
    rcases hr r e with h1 | ⟨h1, _⟩ <;> omega
set_option maxHeartbeats 4000000 in
theorem bill_any (ts : List Stp) (A : Option Addr) (q : Nat) (f u : Int) (w : World) (hr : RdE 2 Stp.enc w A ts) (hT : TG 0 ts) (h1 : 1 ≤ ts.length) (h8 : ts.length ≤ 8) (f0 : 0 ≤ f) (u0 : 0 ≤ u) (u1 : u ≤ 2097151) (fu : f + u ≤ 10000000) :
    Calls Try.prog 39 #[.slice A ts.length q, .int .i64 f, .int .i64 u] w fun e w' => ∃ D dq, e = .returned (.tuple #[.slice D (billL ts f u).length dq, .int .i64 0]) ∧ OwLn w.heap.size w' D dq (billL ts f u) ∧ Below w.heap.size w w' := by
  have HR := Lib.hid hr
  have HT := Lib.hid hT
  obtain ⟨ad, hA, _, _⟩ := hr.at2 0 (by omega) _ _ rfl
  have HA := Lib.hid (show ∀ ad, A = some ad → ad.block < w.heap.size by
    intro ad' e
    obtain ⟨ad2, e2, hc, _⟩ := hr.at2 0 (by omega) _ _ rfl
    rw [e] at e2
    cases e2
    have := World.block_lt_of_cell? w _ hc
    simpa [add_block] using this)
  clear hr hT hA
  refine callsIn_wide.1 (callsIn_of_wp_marks (F := Fence.wide) (n := 0) Try.func39 rfl trivial ?_ rfl)
  simp only [Try.ntmps39, List.size_toArray, List.length_cons, List.length_nil, Nat.reduceAdd, Nat.reduceSub, Array.replicate_succ, Array.replicate_zero, List.push_toArray, List.append_toArray, List.nil_append, List.cons_append]
  refine wpIn_wide.2 ?_
  go_wp2_with (fail)
  go_at_call 69
  refine (asked_any ts A q f u _ (HR.out.below (blw_alloc (Below.refl _ _) _)) HT.out h1 h8 f0 u0 u1 fu).mono ?_
  rintro e w1 ⟨rfl, hb⟩
  have hz1 := hb.size
  simp only [World.size_alloc] at hz1
  have HB1 := Lib.hid (below_then' (blw_alloc (Below.refl _ _) _) hb)
  have BU := Lib.hid (Boxed.out (Boxed.new w 3 (.int .i64 u)) hb)
  clear hb
  go_wp2_with (fail)
  go_at_call 70
  refine (pieces_any _ _ _ _ _).mono ?_
  rintro e w2 ⟨rfl, rfl⟩
  go_wp2_with (fail)
  obtain ⟨P, hP⟩ : ∃ P, P = pieceL ts f := ⟨_, rfl⟩
  have HP := Lib.hid hP
  have HPN := Lib.hid (show P.length ≤ 8 by rw [hP]; have := piece_len ts f; omega)
  have HPK := Lib.hid (show ∀ x ∈ P, (1 ≤ x.1 ∧ x.1 ≤ 10000000) ∧ 1 ≤ x.2 ∧ x.2 ≤ 100000 by rw [hP]; exact piece_ok ts 0 f HT.out (by omega) f0)
  have HBW := Lib.hid (show Below w.heap.size w (((w1.alloc (.cells #[.slice none 0 0] 112)).alloc (.cells #[.slice A ts.length q] 55)).alloc (.cells #[.int .i64 f] 3)) from blw_alloc (blw_alloc (blw_alloc HB1.out _) _) _)
  have hs2 : (w1.alloc (.cells #[.slice none 0 0] 112)).heap.size = w1.heap.size + 1 := World.size_alloc _ _
  have hs3 : ((w1.alloc (.cells #[.slice none 0 0] 112)).alloc (.cells #[.slice A ts.length q] 55)).heap.size = w1.heap.size + 1 + 1 := by rw [World.size_alloc, hs2]
  have hs4 : (((w1.alloc (.cells #[.slice none 0 0] 112)).alloc (.cells #[.slice A ts.length q] 55)).alloc (.cells #[.int .i64 f] 3)).heap.size = w1.heap.size + 1 + 1 + 1 := by rw [World.size_alloc, hs3]
  have CT := Lib.hid (show Cs (((w1.alloc (.cells #[.slice none 0 0] 112)).alloc (.cells #[.slice A ts.length q] 55)).alloc (.cells #[.int .i64 f] 3)) (w1.heap.size + 1) [.slice A ts.length q] from (Cs.new hs2.symm).alloc _)
  have CF := Lib.hid (show Cs (((w1.alloc (.cells #[.slice none 0 0] 112)).alloc (.cells #[.slice A ts.length q] 55)).alloc (.cells #[.int .i64 f] 3)) (w1.heap.size + 1 + 1) [.int .i64 f] from Cs.new hs3.symm)
  have BO := Lib.hid (show Boxed (((w1.alloc (.cells #[.slice none 0 0] 112)).alloc (.cells #[.slice A ts.length q] 55)).alloc (.cells #[.int .i64 f] 3)) w1.heap.size 112 (.slice none 0 0) from ((Boxed.new _ _ _).alloc _).alloc _)
  have BU2 := Lib.hid (show Boxed (((w1.alloc (.cells #[.slice none 0 0] 112)).alloc (.cells #[.slice A ts.length q] 55)).alloc (.cells #[.int .i64 f] 3)) w.heap.size 3 (.int .i64 u) from ((BU.out.alloc _).alloc _).alloc _)
  clear BU HB1
  generalize (((w1.alloc (.cells #[.slice none 0 0] 112)).alloc (.cells #[.slice A ts.length q] 55)).alloc (.cells #[.int .i64 f] 3)) = w2 at *
  generalize w1.heap.size = O at *
  refine (wpIn_wide (n := 0)).1 ?_
  refine range_law (gf := 106) (lb := #[.pointer (some ⟨O + 1, 0, none⟩), .pointer (some ⟨O + 1 + 1, 0, none⟩)]) rfl (enters_of Try.func106 (by kernel_rfl) rfl)
    (pieces_rounds ts A q w.heap.size (O + 1) (O + 1 + 1) f w2 HT.out h8 f0 (by omega) (HR.out.below HBW.out) HA.out (by omega) (by omega) (by omega) CT.out CF.out) (by omega) (fun _ => rfl) (fun h k => KpT.t h k) (KpT.b (by omega) (by omega) (by omega))
    (fun k W => ∃ ls r v, BillSt (pieceL ts f) u w.heap.size O w2.heap.size w.heap.size w k W ls r v)
    (fun c W => c = .exit 0 ∧ ∃ ls v, Boxed W O 112 v ∧ W.ownsRow w2.heap.size 116 3 v ls.length (ls.flatMap Ln.enc) ∧ Below w.heap.size w W ∧ ls = billP (pieceL ts f) u)
    (fun k => { tmps := #[.slice A ts.length q, .int .i64 f, .int .i64 u, undef, undef, .pointer (some ⟨w.heap.size, 0, none⟩), .slice none 0 0, .int .i64 0, .int .i64 0, .pointer (some ⟨O, 0, none⟩), .int .i64 ((pieceL ts f)[k]?.getD (0, 0)).1, .int .i64 ((pieceL ts f)[k]?.getD (0, 0)).2, undef, .slice A ts.length q, .int .i64 f, .int .i64 u, .int .i64 0, .int .i64 0, .bool false, undef, .slice A ts.length q, .int .i64 f,
      .func (.func 106) #[] #[.pointer (some ⟨O + 1, 0, none⟩), .pointer (some ⟨O + 1 + 1, 0, none⟩)], .int .i64 ((pieceL ts f)[k]?.getD (0, 0)).1, .int .i64 ((pieceL ts f)[k]?.getD (0, 0)).2, undef, undef, undef, undef, undef, undef, undef, undef, undef, undef, undef, undef, undef, undef, undef, undef, undef, undef], defers := [] }) ?cJ ?cX ?c0 ?assign ?body ?done ?stop
  case cJ =>
    rintro k X Y row ⟨ls, r, v, h⟩ hg hr
    exact ⟨ls, r, v, h.kept (F := O + 1 + 1) hg hr (by omega) (by omega) (by omega) (by omega) (Nat.le_refl _)⟩
  case cX =>
    rintro c X Y row ⟨rfl, ls, v, h2, h3, h4, h5⟩ hg hr
    refine ⟨rfl, ls, v, h2.kept hg (fun e => by have := (hr _ e.symm).1; omega), own_turned h3 hg (fun r e => .inr (hr r e).2), h4.grown hg h4.size (fun r e => by have := (hr r e).1; omega), h5⟩
  case c0 => exact ⟨[], u, _, u0, u1, BU2.out, BO.out, World.ownsRow_nil _ _ _ _, HBW.out, by simp, by simp, Nat.le_refl _⟩
  case assign =>
    intro l k W K hK
    simp only [encP]
    gi_wp2
    exact hK
  case body =>
    rintro l k W ⟨ls, r, v, hst⟩ hk
    have HS := Lib.hid hst
    have HX := Lib.hid (HPK.out)
    rw [HP.out] at HX HPN
    have hx1 : (pieceL ts f)[k]?.getD (0, 0) = (pieceL ts f)[k] := by rw [List.getElem?_eq_getElem hk]; rfl
    have HDR := Lib.hid (show (pieceL ts f).drop k = (pieceL ts f)[k] :: (pieceL ts f).drop (k + 1) from List.drop_eq_getElem_cons hk)
    obtain ⟨⟨x0, x1⟩, x2, x3⟩ := HX.out _ (List.getElem_mem hk)
    have r0 := hst.r0
    have r1 := hst.r1
    have hcU := hst.bU.cell
    have hfU := hst.bU.frozen
    have hcO := hst.bO.cell
    have hfO := hst.bO.frozen
    have hn8 := HPN.out
    rw [hx1]
    clear hst hx1 hP
    generalize (pieceL ts f)[k] = x at *
    obtain ⟨xl, xp⟩ := x
    simp only at x0 x1 x2 x3 ⊢
    by_cases hr0 : r = 0
    · have c1 : (r == 0) = true := by simp [hr0]
      have HR0 := Lib.hid hr0
      clear hr0
      gi_wp2
      refine ⟨KeepsOthers.refl _, rfl, ls, v, HS.out.bO, HS.out.own, HS.out.bel, ?_⟩
      have := HS.out.eq
      rw [HR0.out, bill_zero, List.append_nil] at this
      exact this
    · have c1 : (r == 0) = false := by simp [hr0]
      have HR0 := Lib.hid hr0
      clear hr0
      obtain ⟨i0, hi, hz0, hz1, hz2⟩ := info_parts info_ln
      by_cases hm : xl ≤ r
      · have m0 : 0 ≤ xl * xp := Int.mul_nonneg (by omega) (by omega)
        have m1 : xl * xp ≤ 2097151 * 100000 := Int.mul_le_mul (by omega) x3 (by omega) (by omega)
        have hw : wrap64 (xl * xp) = xl * xp := by unfold wrap64; omega
        have hmin : min xl r = xl := by omega
        have HMN := Lib.hid hmin
        clear hmin
        gi_wp2_with (gi_at_builtin; refine wpListIn_append_own _ rfl _ _ 112 rfl w2.heap.size 116 i0 (.agg #[.int .i64 0, .int .i64 0, .int .i64 0]) 3 24 Try.underlying112 hi hz0 hz1 hz2 rfl (by decide) _ _ _ rfl (HS.out.own.alloc _) ⟨W.heap.size, 0, none⟩ 1 1 [.int .i64 xl, .int .i64 xp, .int .i64 (xl * xp)] rfl rfl (World.news_of_block (cs := #[.int .i64 xl, .int .i64 xp, .int .i64 (xl * xp)]) (t := 116) (fr := (0, 0)) (MapKept.heap_alloc W _).1) (by simp [Value.oneCell']) (by have := HS.out.len; simp only [maxLen]; omega) (by have := HS.out.len; omega) (by have := HS.out.siz; first | omega | (simp; omega)) ?_; intro v' w3 hown' hgrow _; obtain ⟨g', cap', rfl⟩ := ownsRow_succ hown'; obtain ⟨k1, k2, k3, k4, k5⟩ := grew (n0 := w.heap.size) (T := O + 1) (F := O + 1 + 1) HS.out.own HS.out.siz hgrow (by decide) (by omega) (by omega) (by omega); have HG := Lib.hid (show KeepsOthers W w3 ∧ Below w.heap.size W w3 ∧ KpT w.heap.size (O + 1) (O + 1 + 1) W w3 ∧ w2.heap.size ≤ w3.heap.size from ⟨k1, k2, k3, k5⟩); have HO3 := Lib.hid hown'; have bO3 := Lib.hid (k4 _ _ _ HS.out.bO (by decide)); have bU3 := Lib.hid (k4 _ _ _ HS.out.bU (by decide)); clear hgrow hown' k1 k2 k3 k4 k5 hcU hfU hcO hfO; have hcO := bO3.out.cell; have hfO := bO3.out.frozen; have hcU := bU3.out.cell; have hfU := bU3.out.frozen; have nUO : w.heap.size ≠ O := (by omega); have nOU : O ≠ w.heap.size := (by omega); have hT3 : O + 1 < w3.heap.size := (by have := HG.out.2.2.2; omega); have hF3 : O + 1 + 1 < w3.heap.size := (by have := HG.out.2.2.2; omega); have hn3 : w.heap.size ≤ w3.heap.size := (by have := HG.out.2.2.2; omega))
        refine ⟨(HG.out.1.trans (KeepsOthers.setCell _ _ _)).trans (KeepsOthers.setCell _ _ _), (HG.out.2.2.1.t (KpT.box bO3.out (.slice (some ⟨g', 0, none⟩) (ls.length + 1) cap') (by decide) (by omega) (by omega) (by omega) hT3 hF3 hn3)).t (KpT.box (box_other bU3.out nUO (.slice (some ⟨g', 0, none⟩) (ls.length + 1) cap')) _ (by decide) (by omega) (by omega) (by omega) (by simpa using hT3) (by simpa using hF3) (by simpa using hn3)), ls ++ [⟨xl, xp, xl * xp⟩], r - xl, (.slice (some ⟨g', 0, none⟩) (ls.length + 1) cap'), ?_⟩
        refine ⟨by omega, by omega, (box_other bU3.out nUO _).set _, box_other (bO3.out.set _) nOU _, ?_, ?_, ?_, ?_, ?_⟩
        · rw [List.length_append, List.flatMap_append]
          try rw [← hs4]
          exact ownsRow_setCell_below (a := ⟨w.heap.size, 0, none⟩) (ownsRow_setCell_below (a := ⟨O, 0, none⟩) HO3.out (show O < w2.heap.size by omega) _) (show w.heap.size < w2.heap.size by omega) _
        · exact (((HS.out.bel.trans HG.out.2.1).setCell (p := ⟨O, 0, none⟩) (by show w.heap.size ≤ O; omega) _).setCell (p := ⟨w.heap.size, 0, none⟩) (Nat.le_refl _) _)
        · have := HS.out.len
          simp; omega
        · have := HS.out.eq
          rw [HDR.out, bill_cons, if_neg HR0.out] at this
          simp only [HMN.out, Int.sub_self] at this
          rw [List.append_assoc]
          exact this
        · have := HG.out.2.2.2
          simp
          omega
      · have m0 : 0 ≤ r * xp := Int.mul_nonneg (by omega) (by omega)
        have m1 : r * xp ≤ 2097151 * 100000 := Int.mul_le_mul (by omega) x3 (by omega) (by omega)
        have hw : wrap64 (r * xp) = r * xp := by unfold wrap64; omega
        have hmin : min xl r = r := by omega
        have HMN := Lib.hid hmin
        clear hmin
        gi_wp2_with (gi_at_builtin; refine wpListIn_append_own _ rfl _ _ 112 rfl w2.heap.size 116 i0 (.agg #[.int .i64 0, .int .i64 0, .int .i64 0]) 3 24 Try.underlying112 hi hz0 hz1 hz2 rfl (by decide) _ _ _ rfl (HS.out.own.alloc _) ⟨W.heap.size, 0, none⟩ 1 1 [.int .i64 r, .int .i64 xp, .int .i64 (r * xp)] rfl rfl (World.news_of_block (cs := #[.int .i64 r, .int .i64 xp, .int .i64 (r * xp)]) (t := 116) (fr := (0, 0)) (MapKept.heap_alloc W _).1) (by simp [Value.oneCell']) (by have := HS.out.len; simp only [maxLen]; omega) (by have := HS.out.len; omega) (by have := HS.out.siz; first | omega | (simp; omega)) ?_; intro v' w3 hown' hgrow _; obtain ⟨g', cap', rfl⟩ := ownsRow_succ hown'; obtain ⟨k1, k2, k3, k4, k5⟩ := grew (n0 := w.heap.size) (T := O + 1) (F := O + 1 + 1) HS.out.own HS.out.siz hgrow (by decide) (by omega) (by omega) (by omega); have HG := Lib.hid (show KeepsOthers W w3 ∧ Below w.heap.size W w3 ∧ KpT w.heap.size (O + 1) (O + 1 + 1) W w3 ∧ w2.heap.size ≤ w3.heap.size from ⟨k1, k2, k3, k5⟩); have HO3 := Lib.hid hown'; have bO3 := Lib.hid (k4 _ _ _ HS.out.bO (by decide)); have bU3 := Lib.hid (k4 _ _ _ HS.out.bU (by decide)); clear hgrow hown' k1 k2 k3 k4 k5 hcU hfU hcO hfO; have hcO := bO3.out.cell; have hfO := bO3.out.frozen; have hcU := bU3.out.cell; have hfU := bU3.out.frozen; have nUO : w.heap.size ≠ O := (by omega); have nOU : O ≠ w.heap.size := (by omega); have hT3 : O + 1 < w3.heap.size := (by have := HG.out.2.2.2; omega); have hF3 : O + 1 + 1 < w3.heap.size := (by have := HG.out.2.2.2; omega); have hn3 : w.heap.size ≤ w3.heap.size := (by have := HG.out.2.2.2; omega))
        refine ⟨(HG.out.1.trans (KeepsOthers.setCell _ _ _)).trans (KeepsOthers.setCell _ _ _), (HG.out.2.2.1.t (KpT.box bO3.out (.slice (some ⟨g', 0, none⟩) (ls.length + 1) cap') (by decide) (by omega) (by omega) (by omega) hT3 hF3 hn3)).t (KpT.box (box_other bU3.out nUO (.slice (some ⟨g', 0, none⟩) (ls.length + 1) cap')) _ (by decide) (by omega) (by omega) (by omega) (by simpa using hT3) (by simpa using hF3) (by simpa using hn3)), ls ++ [⟨r, xp, r * xp⟩], 0, (.slice (some ⟨g', 0, none⟩) (ls.length + 1) cap'), ?_⟩
        refine ⟨by omega, by omega, (box_other bU3.out nUO _).set _, box_other (bO3.out.set _) nOU _, ?_, ?_, ?_, ?_, ?_⟩
        · rw [List.length_append, List.flatMap_append]
          try rw [← hs4]
          exact ownsRow_setCell_below (a := ⟨w.heap.size, 0, none⟩) (ownsRow_setCell_below (a := ⟨O, 0, none⟩) HO3.out (show O < w2.heap.size by omega) _) (show w.heap.size < w2.heap.size by omega) _
        · exact (((HS.out.bel.trans HG.out.2.1).setCell (p := ⟨O, 0, none⟩) (by show w.heap.size ≤ O; omega) _).setCell (p := ⟨w.heap.size, 0, none⟩) (Nat.le_refl _) _)
        · have := HS.out.len
          simp; omega
        · have := HS.out.eq
          rw [HDR.out, bill_cons, if_neg HR0.out] at this
          simp only [HMN.out, Int.sub_self] at this
          rw [List.append_assoc]
          exact this
        · have := HG.out.2.2.2
          simp
          omega
  case done =>
    rintro D W hD ⟨ls, r, v, hst⟩ hK
    have heq := hst.eq
    rw [List.drop_length] at heq
    simp only [billP, List.append_nil] at heq
    rw [← bill_piece] at heq
    subst heq
    obtain ⟨D1, dq, rfl, ho⟩ := OwLn.of hst.own rfl rfl
    have hc := hst.bO.cell
    have HH := Lib.hid hst
    have HO := Lib.hid ho
    have HK := Lib.hid hK
    clear hst ho hK
    go_wp2
    refine ⟨by simp, .inl ⟨_, _, rfl, run_takeDeferred HK.out, ?_⟩⟩
    refine ⟨_, results_tmp2 rfl _ _ _, D1, dq, rfl, own_less (ownsRow_putObj HO.out _ HK.out rfl) (by omega), HH.out.bel.grown (grownBy_putObj' _ _ _) HH.out.bel.size (by intro k e; cases e; omega)⟩
  case stop =>
    rintro D c W hD ⟨rfl, ls, v, h2, h3, h4, h5⟩ hK
    rw [← bill_piece] at h5
    subst h5
    obtain ⟨D1, dq, rfl, ho⟩ := OwLn.of h3 rfl rfl
    have hc := h2.cell
    have H4 := Lib.hid h4
    have HO := Lib.hid ho
    have HK := Lib.hid hK
    clear h2 h3 h4 ho hK
    refine wpIn_wide.2 ?_
    go_wp2
    refine ⟨by simp, .inl ⟨_, _, rfl, run_takeDeferred HK.out, ?_⟩⟩
    refine ⟨_, results_tmp2 rfl _ _ _, D1, dq, rfl, own_less (ownsRow_putObj HO.out _ HK.out rfl) (by omega), H4.out.grown (grownBy_putObj' _ _ _) H4.out.size (by intro k e; cases e; omega)⟩
end Go.Proofs.Ytfdgjaahmbjnpaa.Tar
