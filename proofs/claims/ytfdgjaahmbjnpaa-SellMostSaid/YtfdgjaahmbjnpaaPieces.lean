/- tariff.pieces: its rounds. -/
import Derived.Test.YtfdgjaahmbjnpaaRng
import Derived.Test.YtfdgjaahmbjnpaaTarC
namespace Go.Proofs.Ytfdgjaahmbjnpaa.Tar
open Go.RowKit Go.Proofs.Ytfdgjaahmbjnpaa.Base Go.Proofs.Ytfdgjaahmbjnpaa.Rng
set_option linter.unusedVariables false
set_option linter.unusedSimpArgs false
set_option maxRecDepth 20000
attribute [local go_sem] Oper.semAt_some
/-- The steps from a number of units on, each with how many are left in it. -/
def pieceL : List Stp → Int → List (Int × Int)
  | [], _ => []
  | s :: t, a => if s.upto ≤ a then pieceL t a else (s.upto - a, s.price) :: pieceL t s.upto
def billP : List (Int × Int) → Int → List Ln
  | [], _ => []
  | x :: t, u => if u = 0 then [] else ⟨min x.1 u, x.2, min x.1 u * x.2⟩ :: billP t (u - min x.1 u)
def mostP (money : Int) : List (Int × Int) → Int → Int → Int × Int
  | [], u, p => (u, p)
  | x :: t, u, p => if min (min x.1 ((money - p) / x.2)) (2097151 - u) < x.1 then (u + min (min x.1 ((money - p) / x.2)) (2097151 - u), p + min (min x.1 ((money - p) / x.2)) (2097151 - u) * x.2)
    else mostP money t (u + min (min x.1 ((money - p) / x.2)) (2097151 - u)) (p + min (min x.1 ((money - p) / x.2)) (2097151 - u) * x.2)
theorem bill_piece : ∀ (t : List Stp) (a u : Int), billL t a u = billP (pieceL t a) u
  | [], _, _ => rfl
  | s :: t, a, u => by
    unfold billL pieceL
    by_cases c : s.upto ≤ a
    · rw [if_pos c, if_pos c]; exact bill_piece t a u
    · rw [if_neg c, if_neg c]
      show _ = if u = 0 then [] else _
      by_cases c2 : u = 0
      · rw [if_pos c2, if_pos c2]
      · rw [if_neg c2, if_neg c2, bill_piece]
theorem most_piece (m : Int) : ∀ (t : List Stp) (a u p : Int), mostL m t a u p = mostP m (pieceL t a) u p
  | [], _, _, _ => rfl
  | s :: t, a, u, p => by
    unfold mostL pieceL
    by_cases c : s.upto ≤ a
    · rw [if_pos c, if_pos c]; exact most_piece m t a u p
    · rw [if_neg c, if_neg c]
      show _ = if _ then _ else _
      by_cases c2 : min (min (s.upto - a) ((m - p) / s.price)) (2097151 - u) < s.upto - a
      · rw [if_pos c2, if_pos c2]
      · rw [if_neg c2, if_neg c2, most_piece]
theorem piece_cons (s : Stp) (t : List Stp) (a : Int) : pieceL (s :: t) a = if s.upto ≤ a then pieceL t a else (s.upto - a, s.price) :: pieceL t s.upto := rfl
theorem piece_len : ∀ (t : List Stp) (a : Int), (pieceL t a).length ≤ t.length
  | [], _ => by simp [pieceL]
  | s :: t, a => by
    unfold pieceL
    have h1 := piece_len t a
    have h2 := piece_len t s.upto
    split <;> simp <;> omega
/-- Each piece is within bounds. -/
theorem piece_ok : ∀ (t : List Stp) (lo a : Int), TG lo t → 0 ≤ lo → 0 ≤ a → ∀ x ∈ pieceL t a, (1 ≤ x.1 ∧ x.1 ≤ 10000000) ∧ 1 ≤ x.2 ∧ x.2 ≤ 100000
  | [], _, _, _, _, _ => by simp [pieceL]
  | s :: t, lo, a, h, h0, ha => by
    obtain ⟨h1, h2, h3, h4, h'⟩ := h
    unfold pieceL
    by_cases c : s.upto ≤ a
    · rw [if_pos c]; exact piece_ok t s.upto a h' (by omega) ha
    · rw [if_neg c]
      intro x hx
      rcases List.mem_cons.1 hx with rfl | hx
      · exact ⟨⟨by show 1 ≤ s.upto - a; omega, by show s.upto - a ≤ 10000000; omega⟩, h3, h4⟩
      · exact piece_ok t s.upto s.upto h' (by omega) (by omega) x hx
def encP (l : List (Int × Int)) (k : Nat) : Array Value := #[.int .i64 (l[k]?.getD (0, 0)).1, .int .i64 (l[k]?.getD (0, 0)).2]
/-- What a round must keep: what lay below n0, the iterator's two boxes, and whatever is a step's block. -/
def KpT (n0 T F : Nat) (W W' : World) : Prop := W.heap.size ≤ W'.heap.size ∧ ∀ b, b < n0 ∨ b = T ∨ b = F ∨ (∃ cs fr, W.heap[b]? = some (.cells cs 118 fr)) → W'.heap[b]? = W.heap[b]?
theorem KpT.t {n0 T F : Nat} {A B C : World} (h : KpT n0 T F A B) (k : KpT n0 T F B C) : KpT n0 T F A C := ⟨Nat.le_trans h.1 k.1, fun b hb => (k.2 b (by
  rcases hb with hb | hb | hb | ⟨cs, fr, hb⟩
  · exact .inl hb
  · exact .inr (.inl hb)
  · exact .inr (.inr (.inl hb))
  · exact .inr (.inr (.inr ⟨cs, fr, (h.2 b (.inr (.inr (.inr ⟨cs, fr, hb⟩)))).trans hb⟩)))).trans (h.2 b hb)⟩
theorem KpT.refl (n0 T F : Nat) (W : World) : KpT n0 T F W W := ⟨Nat.le_refl _, fun _ _ => rfl⟩
theorem KpT.grown {n0 T F : Nat} {W W' : World} {row : Option Nat} (hg : W.grownBy W' row) (hr : ∀ r, row = some r → n0 ≤ r ∧ r ≠ T ∧ r ≠ F ∧ ∀ cs fr, W.heap[r]? ≠ some (.cells cs 118 fr)) (hT : T < W.heap.size) (hF : F < W.heap.size) (hn : n0 ≤ W.heap.size) : KpT n0 T F W W' :=
  ⟨hg.size, fun b hb => hg.block b (by
    rcases hb with hb | hb | hb | ⟨cs, fr, hb⟩
    · omega
    · omega
    · omega
    · exact (Array.getElem?_eq_some_iff.1 hb).1) (fun e => by
    obtain ⟨h1, h2, h3, h4⟩ := hr b e.symm
    rcases hb with hb | hb | hb | ⟨cs, fr, hb⟩
    · omega
    · exact h2 hb
    · exact h3 hb
    · exact h4 _ _ hb)⟩
theorem KpT.alloc {n0 T F : Nat} {W : World} (o : Obj) (hT : T < W.heap.size) (hF : F < W.heap.size) (hn : n0 ≤ W.heap.size) : KpT n0 T F W (W.alloc o) := KpT.grown (World.grownBy_alloc W o none) (by intro r e; cases e) hT hF hn
theorem KpT.b {n0 T F : Nat} {w : World} (hn : n0 ≤ w.heap.size) (hT : T < w.heap.size) (hF : F < w.heap.size) (W : World) (l : Nat) (o o' : Obj) (hl : w.heap.size ≤ l) (h : W.heap[l]? = some o) (hc : o.isCells = false) : KpT n0 T F W (W.putObj l o') :=
  KpT.grown (grownBy_putObj' W l o') (by
    intro r e
    cases e
    refine ⟨by omega, by omega, by omega, fun cs fr e => ?_⟩
    rw [h] at e
    cases e
    cases hc) (by have := (Array.getElem?_eq_some_iff.1 h).1; omega) (by have := (Array.getElem?_eq_some_iff.1 h).1; omega) (by have := (Array.getElem?_eq_some_iff.1 h).1; omega)
theorem Cs.heap {W W' : World} {b : Nat} {vs : List Value} (h : Cs W b vs) (he : W'.heap[b]? = W.heap[b]?) (hs : W.heap.size ≤ W'.heap.size) : Cs W' b vs :=
  ⟨Nat.lt_of_lt_of_le h.1 hs, fun i v hv => ⟨(World.cell?_of_block he).trans (h.2 i v hv).1, (World.frozen?_of_block he).trans (h.2 i v hv).2⟩⟩
theorem RdE.heap {α : Type} {size : Nat} {enc : α → List Value} {W W' : World} {A : Option Addr} {xs : List α} (h : RdE size enc W A xs) (he : ∀ ad, A = some ad → W'.heap[ad.block]? = W.heap[ad.block]?) : RdE size enc W' A xs :=
  ⟨h.1, fun hn => by
    obtain ⟨ad, e, hc⟩ := h.2 hn
    subst e
    refine ⟨ad, rfl, fun i x hx j u hu => ?_⟩
    have h1 := hc i x hx j u hu
    exact (World.cell?_of_block (by rw [add_block]; exact he ad rfl)).trans h1⟩
theorem pieces_any (A : Option Addr) (n q : Nat) (a : Int) (w : World) :
    Calls Try.prog 70 #[.slice A n q, .int .i64 a] w fun e w' => e = .returned (.func (.func 106) #[] #[.pointer (some ⟨w.heap.size, 0, none⟩), .pointer (some ⟨w.heap.size + 1, 0, none⟩)]) ∧
      w' = (w.alloc (.cells #[.slice A n q] 55)).alloc (.cells #[.int .i64 a] 3) := by
  go_enter Try.func70, Try.ntmps70
  go_wp2
  go_ret
  exact ⟨rfl, rfl⟩
set_option maxHeartbeats 4000000 in
theorem pieces_rounds (ts : List Stp) (A : Option Addr) (q n0 T F : Nat) (a : Int) (w : World) (hT : TG 0 ts) (h8 : ts.length ≤ 8) (a0 : 0 ≤ a) (a1 : a ≤ 10000000) (hr : RdE 2 Stp.enc w A ts) (hA : ∀ ad, A = some ad → ad.block < n0) (hn : n0 ≤ w.heap.size) (hTF : T ≠ F) (hnF : n0 ≤ F)
    (cT : Cs w T [.slice A ts.length q]) (cF : Cs w F [.int .i64 a]) :
    Rounds Try.prog 106 #[.pointer (some ⟨T, 0, none⟩), .pointer (some ⟨F, 0, none⟩)] (pieceL ts a).length (encP (pieceL ts a)) F (KpT n0 T F) w := by
  intro l J X W hB hJ h0 hY
  have HR := Lib.hid (hr.below hB)
  have HT := Lib.hid (cT.after hB)
  have HF := Lib.hid (cF.after hB)
  have HG := Lib.hid hT
  have HJ := Lib.hid hJ
  have HY := Lib.hid hY
  have HA := Lib.hid hA
  have H0 := Lib.hid h0
  have t0 := (HT.out.at 0 rfl).1
  have hmx := hr.1
  clear hr cT cF hT hJ hY h0 hA
  refine callsIn_of_wp (F := Fence.wide) (n := 0) Try.func106 rfl trivial ?_ rfl
  simp only [Try.ntmps106, List.size_toArray, List.length_cons, List.length_nil, Nat.reduceAdd, Nat.reduceSub, Array.replicate_succ, Array.replicate_zero, List.push_toArray, List.append_toArray, List.nil_append, List.cons_append]
  gi_wp2
  gi_loopw [8] (fun v wr => ∃ (i k : Nat) (b : Int), i ≤ ts.length ∧ v = .int .i64 (i : Int) ∧ J k wr ∧ Cs wr F [.int .i64 b] ∧ W.heap.size ≤ wr.heap.size ∧ (∀ x, x < n0 ∨ x = T → wr.heap[x]? = W.heap[x]?) ∧ 0 ≤ b ∧ b ≤ 10000000 ∧ k ≤ (pieceL ts a).length ∧ (pieceL ts a).drop k = pieceL (ts.drop i) b)
    (fun v _ => ts.length - (intOf v).toNat)
  case atStart => exact ⟨0, 0, a, Nat.zero_le _, rfl, H0.out, HF.out, Nat.le_refl _, fun _ _ => rfl, a0, a1, Nat.zero_le _, rfl⟩
  case round =>
    obtain ⟨i, k, b, hi, rfl, hJs, hcF, hsz, hkp, b0, b1, hkl, hd⟩ := hrel
    have HKL := Lib.hid hkl
    clear hkl
    have HS := Lib.hid hJs
    have HC := Lib.hid hcF
    have HK := Lib.hid hkp
    have HD := Lib.hid hd
    have HT2 := Lib.hid (Cs.heap HT.out (hkp T (.inr rfl)) hsz)
    have HR2 := Lib.hid (RdE.heap HR.out (fun ad e => hkp _ (.inl (HA.out ad e))))
    have f0 := (hcF.at 0 rfl).1
    have g0 := (hcF.at 0 rfl).2
    have lF := hcF.1
    clear hJs hcF hkp hd t0
    by_cases hlt : i < ts.length
    · obtain ⟨ad, hae, x0, x1⟩ := HR2.out.at2 i hlt _ _ rfl
      cases hae
      obtain ⟨⟨u0, u1⟩, p0, p1⟩ := HG.out.each (by omega) _ (List.getElem_mem hlt)
      have HE := Lib.hid (show ts.drop i = ts[i] :: ts.drop (i + 1) from List.drop_eq_getElem_cons hlt)
      have hD2 := HD.out
      rw [HE.out, piece_cons] at hD2
      generalize (ts[i]'hlt).upto = u at *
      generalize (ts[i]'hlt).price = p at *
      have hg0 : (0 : Int) ≤ (i : Int) := by omega
      have hg1 : (i : Int) < (ts.length : Int) := by omega
      by_cases c : u ≤ b
      · rw [if_pos c] at hD2
        have HD2 := Lib.hid hD2
        clear hD2
        gi_wp2
        go_roundw
        case rel => exact ⟨i + 1, k, b, by omega, by simp, HJ.out _ _ _ none HS.out (World.grownBy_alloc _ _ _) (.inl rfl), HC.out.alloc _, by simp; omega, fun x hx => (Below.heap_alloc _ _ _ (by have := HT.out.1; have := HC.out.1; rcases hx with h | rfl <;> omega)).trans (HK.out x hx), b0, b1, HKL.out, HD2.out⟩
        case measure => simp [intOf]; omega
      · rw [if_neg c] at hD2
        have hk : k < (pieceL ts a).length := by
          refine Decidable.byContradiction fun h => ?_
          rw [List.drop_eq_nil_of_le (by omega)] at hD2
          cases hD2
        have hk2 : (pieceL ts a)[k]?.getD (0, 0) = (u - b, p) := by
          have := congrArg (fun l => l[0]?.getD (0, 0)) hD2
          simpa [List.getElem?_drop] using this
        have HD3 := Lib.hid (show (pieceL ts a).drop (k + 1) = pieceL (ts.drop (i + 1)) u by
          have := congrArg (fun l => l.drop 1) hD2
          simpa [List.drop_drop, Nat.add_comm] using this)
        have hcA : Cs (wr.alloc (.cells #[.int .i64 u, .int .i64 p] 118)) wr.heap.size [.int .i64 u, .int .i64 p] := Cs.new rfl
        obtain ⟨fn, tmps, assign, body, hy, hR⟩ := HY.out k (wr.alloc (.cells #[.int .i64 u, .int .i64 p] 118)) (HJ.out _ _ _ none HS.out (World.grownBy_alloc _ _ _) (.inl rfl)) hk
        unfold encP at hy
        rw [hk2] at hy
        dsimp only at hy
        clear hD2 hk2
        gi_wp2
        refine ⟨rfl, hR.mono ?_⟩
        clear hy hR
        rintro e W3 (⟨rfl, hJ3, hk3⟩ | ⟨rfl, hX3⟩)
        · have HJ3 := Lib.hid hJ3
          have HK3 := Lib.hid hk3
          have hs3 := hk3.1
          have hF3 := HC.out.alloc (.cells #[.int .i64 u, .int .i64 p] 118)
          have hF4 := Lib.hid (Cs.heap hF3 (HK3.out.2 F (.inr (.inr (.inl rfl)))) hs3)
          have hB3 := Cs.heap hcA (HK3.out.2 wr.heap.size (.inr (.inr (.inr ⟨_, _, (MapKept.heap_alloc wr _).1⟩)))) hs3
          have c3 := (hB3.at 0 rfl).1
          have f3 := (hF4.out.at 0 rfl).2
          have g3 := (hF4.out.at 0 rfl).1
          have HS3 := Lib.hid hs3
          have l3 := hF4.out.1
          have e3 := Lib.hid (fun x (hx : x < n0 ∨ x = T) => ((HK3.out.2 x (by rcases hx with h | h; exact .inl h; exact .inr (.inl h))).trans (Below.heap_alloc wr _ x (by have := HT.out.1; rcases hx with h | rfl <;> omega))).trans (HK.out x hx))
          clear hJ3 hk3 hs3 hF3 hB3 hcA f0 g0 x0 x1
          gi_wp2
          go_roundw
          case rel =>
            refine ⟨i + 1, k + 1, u, by omega, by simp, HJ.out _ _ _ (some F) HJ3.out (grownBy_setCell' _ _ _) (.inr rfl), Cs.put hF4.out (by simp) rfl, ?_, ?_, by omega, u1, by omega, HD3.out⟩
            · have := HS3.out; simp at this ⊢; omega
            · intro x hx
              exact (Below.heap_setCell _ _ _ x (by rcases hx with h | rfl <;> simp <;> omega)).trans (e3.out x hx)
          case measure => simp [intOf]; omega
        · gi_wp2
          refine bodyPost_ret (results_none rfl _ _ _) rfl ?_
          exact ⟨⟨_, rfl⟩, .inr hX3⟩
    · obtain rfl : i = ts.length := by omega
      have hk : (pieceL ts a).length ≤ k := by
        have := HD.out
        rw [List.drop_length] at this
        have := congrArg List.length this
        simp [pieceL] at this
        omega
      have hkk : k = (pieceL ts a).length := Nat.le_antisymm HKL.out hk
      have HKK := Lib.hid hkk
      clear hkk hk
      gi_wp2
      go_end0
      exact ⟨⟨_, rfl⟩, .inl (HKK.out ▸ HS.out)⟩
end Go.Proofs.Ytfdgjaahmbjnpaa.Tar
