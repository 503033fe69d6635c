/- The contract of words.Show. -/
import Derived.Test.YtccjcdecpgigpaaDoorOver
import Derived.Test.YtccjcdecpgigpaaDoorDig
import Derived.Test.YtccjcdecpgigpaaDoorApp
import Derived.Test.YtccjcdecpgigpaaDoorShelf
namespace Go.Proofs.YtccjcdecpgigpaaDoor.Show
open Go.RowKit Go.Proofs.YtccjcdecpgigpaaDoor.Base Go.Proofs.YtccjcdecpgigpaaDoor.Word Go.Proofs.YtccjcdecpgigpaaDoor.Dig
set_option linter.unusedVariables false
set_option linter.unusedSimpArgs false
set_option maxRecDepth 20000
attribute [local go_sem] eq_w3
theorem info_str : (Tryd.prog.info? 9).map (fun i => (i.zero, i.size, i.bytes)) = some (some (.string ByteArray.empty), 1, 16) := by kernel_rfl
def encS (c : UInt8) : List Value := [.string (strOf [c])]
theorem own_after {B : Nat} {e : TypeId} {k : Nat} {v : Value} {n : Nat} {xs : List Value} {w w' : World} (h : w.ownsRow B e k v n xs) (hb : Below w.heap.size w w') : w'.ownsRow B e k v n xs :=
  h.kept (row := none) ⟨hb.os, hb.tape, hb.output, hb.size, fun j hj _ => hb.block j hj⟩ (by cases hv : v.ownBlock <;> simp)
theorem own_ne {B : Nat} {e : TypeId} {k : Nat} {v : Value} {n : Nat} {xs : List Value} {w : World} (h : w.ownsRow B e k v n xs) {g : Nat} (hg : w.heap.size ≤ g) : some g ≠ v.ownBlock := by
  intro e
  have := (h.lt g e.symm).2
  omega
theorem grown_cell {w w' : World} {row : Option Nat} (h : w.grownBy w' row) {g : Nat} (hg : g < w.heap.size) (hn : some g ≠ row) (o : Nat) : w'.cell? ⟨g, o, none⟩ = w.cell? ⟨g, o, none⟩ := World.cell?_of_block (h.block g hg hn)
theorem grown_frozen {w w' : World} {row : Option Nat} (h : w.grownBy w' row) {g : Nat} (hg : g < w.heap.size) (hn : some g ≠ row) (o : Nat) : w'.frozen? ⟨g, o, none⟩ = w.frozen? ⟨g, o, none⟩ := World.frozen?_of_block (h.block g hg hn)
def lenOf : Value → Nat
  | .slice _ n _ => n
  | _ => 0
def chr (d : Nat) : UInt8 := UInt8.ofNat (48 + d)
theorem own_lenOf {w : World} {base : Nat} {e : TypeId} {size n : Nat} {v : Value} {xs : List Value} (h : w.ownsRow base e size v n xs) : lenOf v = n := by
  rcases h.2 with ⟨rfl, h0⟩ | ⟨g', cap', cur, rfl, _⟩
  · exact h0.symm
  · rfl
theorem piece (d : Nat) (h : d < 10) : Utf8.encode (48 + (d : Int)) = strOf [chr d] := by
  match d, h with
  | 0, _ => decide +kernel
  | 1, _ => decide +kernel
  | 2, _ => decide +kernel
  | 3, _ => decide +kernel
  | 4, _ => decide +kernel
  | 5, _ => decide +kernel
  | 6, _ => decide +kernel
  | 7, _ => decide +kernel
  | 8, _ => decide +kernel
  | 9, _ => decide +kernel
def natOf (x : W3) : Nat := x.num.toNat
theorem over10 (x : W3) (hx : x.ok) : (overW x 10).ok ∧ natOf (overW x 10) = natOf x / 10 ∧ ov0 x 10 = ((natOf x % 10 : Nat) : Int) := by
  have hd : wd 10 := by unfold wd; omega
  obtain ⟨_, _, ⟨f0, l0⟩, ok, hn⟩ := over_facts x 10 hx hd (by decide)
  have b1 := num_bound ok
  have b2 := num_bound hx
  unfold wd at f0
  unfold natOf
  refine ⟨ok, by omega, by omega⟩
theorem nat_zero (x : W3) (hx : x.ok) : (x.a == 0 && (x.b == 0 && x.c == 0)) = decide (natOf x = 0) := by
  rw [Bool.eq_iff_iff]
  simp only [Bool.and_eq_true, beq_iff_eq, decide_eq_true_eq]
  unfold W3.ok wd at hx
  unfold natOf W3.num
  omega
theorem below_setCells {B b : Nat} (hb : B ≤ b) : ∀ (vs : List Value) (o : Nat) (w0 w : World), Below B w0 w → Below B w0 (w.setCells b o vs)
  | [], _, _, _, h => h
  | v :: r, o, w0, w, h => below_setCells hb r (o + 1) w0 _ (h.setCell (p := ⟨b, o, none⟩) hb v)
theorem flat_s (T : List UInt8) : T.flatMap encS = T.map fun c => Value.string (strOf [c]) := by
  induction T with
  | nil => rfl
  | cons c T ih => rw [List.flatMap_cons, ih]; rfl
theorem rev_any (T : List UInt8) (base g c : Nat) (w : World) (ho : w.ownsRow base 9 1 (.slice (some ⟨g, 0, none⟩) T.length c) T.length (T.flatMap encS)) (hl : T.length ≤ 1000) (hg : base ≤ g) :
    Calls Tryd.prog 81 #[.slice (some ⟨g, 0, none⟩) T.length c] w fun e w' => e = .returned (.tuple #[]) ∧ Below base w w' ∧ ∀ i x, (T.reverse.map fun c => strOf [c])[i]? = some x → w'.cell? ⟨g, 0 + i, none⟩ = some (.string x) := by
  have hcell : ∀ i, i < T.length → w.cell? ⟨g, 0 + i, none⟩ = some (.string (strOf [T.getD i 0])) := by
    intro i hi
    rw [Nat.zero_add, ho.cellAt i (by omega), flat_s, List.getElem?_map, List.getElem?_eq_getElem hi]
    simp [List.getD_eq_getElem?_getD, List.getElem?_eq_getElem hi]
  refine (Tryd.slices_Reverse_string_cells g 0 T.length c (fun i => strOf [T.getD i 0]) w (by omega) hcell (fun j _ => ho.frozenAt _)).mono ?_
  rintro e w' ⟨rfl, q, rfl⟩
  have hs : (Lib.strsOf (fun i => strOf [T.getD i 0]) T.length).reverse.map (fun l => Value.string ⟨l.toArray⟩) = T.reverse.map fun c => Value.string (strOf [c]) := by
    have h1 : Lib.strsOf (fun i => strOf [T.getD i 0]) T.length = T.map fun c => [c] := by
      apply List.ext_getElem?
      intro i
      unfold Lib.strsOf
      rw [List.getElem?_map, List.getElem?_map]
      by_cases hi : i < T.length
      · rw [List.getElem?_range hi, List.getElem?_eq_getElem hi]
        simp [strOf, List.getD_eq_getElem?_getD, List.getElem?_eq_getElem hi]
      · rw [List.getElem?_eq_none (by simpa using hi), List.getElem?_eq_none (by omega)]
        rfl
    rw [h1, List.map_reverse, List.map_reverse, List.map_map]
    rfl
  rw [hs]
  refine ⟨rfl, below_setCells hg _ _ _ _ (blw_drewN _ _ _), fun i x hx => ?_⟩
  have hi : i < T.length := by
    have := (List.getElem?_eq_some_iff.1 hx).1
    simpa using this
  have h2 := World.cell?_setCells_in g (T.reverse.map fun c => Value.string (strOf [c])) 0 (w.drewN q) (fun j hj => by
    have hj' : j < T.length := by simpa using hj
    show (w.cell? ⟨g, 0 + j, none⟩).isSome = true
    rw [hcell j hj']; rfl) i (by simpa using hi)
  rw [h2]
  rw [List.getElem?_map, List.getElem?_eq_getElem (by simpa using hi)] at hx
  simp only [Option.map_some, Option.some.injEq] at hx
  simp only [List.getElem_map]
  rw [hx]
theorem join_bytes (T : List UInt8) : Lib.join ((T.map fun c => strOf [c]).map (·.data.toList)) [] = T := by
  rw [List.map_map]
  have : (fun s : ByteArray => s.data.toList) ∘ (fun c => strOf [c]) = fun c => [c] := by funext c; simp [strOf]
  rw [this]
  unfold Lib.join
  induction T with
  | nil => rfl
  | cons c T ih =>
    cases T with
    | nil => simp [List.intercalate]
    | cons d T =>
      simp only [List.map_cons, List.intercalate, List.intersperse_cons_cons, List.flatten_cons] at ih ⊢
      rw [ih]
      rfl
set_option maxHeartbeats 2000000 in
theorem show_any (x : W3) (w : World) (hx : x.ok) :
    Calls Tryd.prog 37 #[.agg #[.int .u32 x.a, .int .u32 x.b, .int .u32 x.c]] w fun e w' => e = .returned (.string (strOf (decS (natOf x)))) ∧ Below w.heap.size w w' := by
  have hlen29 : (digR (natOf x)).length ≤ 29 := digR_len 28 _ (by have := num_bound hx; unfold natOf; omega)
  obtain ⟨T, hT⟩ : ∃ T, T = digR (natOf x) := ⟨_, rfl⟩
  have hdec : decS (natOf x) = T.reverse := by unfold decS; rw [hT]
  rw [hdec]
  rw [← hT] at hlen29
  have HT := Lib.hid hT
  have HX := Lib.hid hx
  clear hdec hT hx
  go_enter Tryd.func37, Tryd.ntmps37
  go_wp2
  go_loopw [3] (fun v wr => ∃ (out : List UInt8) (y : W3), y.ok ∧ out ++ digR (natOf y) = T ∧ wr.ownsRow (w.heap.size + 1) 9 1 v out.length (out.flatMap encS) ∧ Below w.heap.size w wr ∧ w.heap.size < wr.heap.size ∧ (wr.cell? ⟨w.heap.size, 0, none⟩ = some (.int .u32 y.a) ∧ wr.cell? ⟨w.heap.size, 1, none⟩ = some (.int .u32 y.b) ∧ wr.cell? ⟨w.heap.size, 2, none⟩ = some (.int .u32 y.c)) ∧ wr.frozen? ⟨w.heap.size, 0, none⟩ = false ∧ wr.frozen? ⟨w.heap.size, 1, none⟩ = false ∧ wr.frozen? ⟨w.heap.size, 2, none⟩ = false) (fun v _ => 40 - lenOf v)
  case atStart =>
    refine ⟨[], x, HX.out, HT.out.symm, World.ownsRow_nil _ _ _ _, blw_alloc (Below.refl _ _) _, by simp, ⟨?_, ?_, ?_⟩, ?_, ?_, ?_⟩
    all_goals go_simp
  case round =>
    obtain ⟨out, y, hy, heq, ho, hb, hlt, ⟨c0, c1, c2⟩, f0, f1, f2⟩ := hrel
    obtain ⟨okq, hq, hr⟩ := over10 y hy
    have hd10 : natOf y % 10 < 10 := Nat.mod_lt _ (by decide)
    have HOV := Lib.hid (fun w => over_any y 10 w hy (by unfold wd; omega) (by decide))
    rw [hr] at HOV
    have hz := nat_zero (overW y 10) okq
    rw [hq] at hz
    have hlen : out.length ≤ 28 := by
      have h1 := digR_pos (natOf y)
      have : (out ++ digR (natOf y)).length ≤ 29 := by rw [heq]; exact hlen29
      rw [List.length_append] at this
      omega
    have hstep : digR (natOf y) = chr (natOf y % 10) :: (if natOf y / 10 = 0 then [] else digR (natOf y / 10)) := by
      by_cases hs : natOf y < 10
      · rw [digR_small hs, if_pos (by omega), Nat.mod_eq_of_lt hs]; rfl
      · rw [digR_big hs, if_neg (by omega)]; rfl
    have HST := Lib.hid hstep
    have HEQ := Lib.hid heq
    have HO := Lib.hid ho
    have HB := Lib.hid hb
    have HQ := Lib.hid (show natOf (overW y 10) = natOf y / 10 from hq)
    have HOK := Lib.hid okq
    obtain ⟨q, hqq⟩ : ∃ q, q = overW y 10 := ⟨_, rfl⟩
    rw [← hqq] at HOV HQ HOK hz
    clear hqq heq ho hb hy okq hq hr hstep
    generalize natOf y % 10 = d at *
    generalize natOf y / 10 = ny at *
    have hd0 : (48 : Int) + (d : Int) < 58 := by omega
    by_cases h0 : ny = 0
    all_goals
      first | (rw [decide_eq_true h0] at hz) | (rw [decide_eq_false h0] at hz)
      have H0 := Lib.hid h0
      clear h0
      go_wp2_with (fail)
      go_at_call 41
      refine (HOV.out _).mono ?_
      rintro e w1 ⟨rfl, hb1⟩
      obtain ⟨bc, bf⟩ := bcell hb1
      have hz1 := hb1.size
      have HB1 := Lib.hid hb1
      have lt1 : w.heap.size < w1.heap.size := by omega
      have g0 : w1.cell? ⟨w.heap.size, 0, none⟩ = some (.int .u32 y.a) := by rw [bc _ _ hlt]; exact c0
      have g1 : w1.cell? ⟨w.heap.size, 1, none⟩ = some (.int .u32 y.b) := by rw [bc _ _ hlt]; exact c1
      have g2 : w1.cell? ⟨w.heap.size, 2, none⟩ = some (.int .u32 y.c) := by rw [bc _ _ hlt]; exact c2
      have e0 : w1.frozen? ⟨w.heap.size, 0, none⟩ = false := by rw [bf _ _ hlt]; exact f0
      have e1 : w1.frozen? ⟨w.heap.size, 1, none⟩ = false := by rw [bf _ _ hlt]; exact f1
      have e2 : w1.frozen? ⟨w.heap.size, 2, none⟩ = false := by rw [bf _ _ hlt]; exact f2
      clear hb1 bc bf c0 c1 c2 f0 f1 f2
      have hl28 : (out.length + 1) * 16 ≤ 140737488355328 := by omega
      go_wp2_with (at_builtin; refine app1g (w0 := _) (w.heap.size + 1) rfl (.tmp 13) (.tmp 18) 49 9 (.string ByteArray.empty) 1 16 rfl Tryd.underlying49 info_str rfl (by decide) (by decide) _ out.length (out.flatMap encS) [.string (Utf8.encode (48 + (d : Int)))] rfl _ rfl rfl ?c1 ?co (Below.refl _ _) ?cb ?cg hl28 ?_; (case c1 => simp [Value.oneCell']); (case co => exact World.ownsRow.alloc (own_after HO.out HB1.out) _); (case cb => simp; omega); (case cg => simp); intro v1 w2 ho2 hb2 hg2 _; have nc2 := grown_cell hg2 (g := w1.heap.size) (by simp) (own_ne (own_after HO.out HB1.out) (Nat.le_refl _)); clear hg2; have HO2 := Lib.hid ho2; have bc2 := fun o => hb2.cell (p := ⟨w.heap.size, o, none⟩) (by simp); have bf2 := fun o => hb2.frozen (p := ⟨w.heap.size, o, none⟩) (by simp); have hz2 := hb2.size; have HB2 := Lib.hid hb2; clear ho2 hb2)
      have k0 : w2.cell? ⟨w.heap.size, 0, none⟩ = some (.int .u32 y.a) := by rw [bc2]; go_simp
      have k1 : w2.cell? ⟨w.heap.size, 1, none⟩ = some (.int .u32 y.b) := by rw [bc2]; go_simp
      have k2 : w2.cell? ⟨w.heap.size, 2, none⟩ = some (.int .u32 y.c) := by rw [bc2]; go_simp
      have q0 : w2.frozen? ⟨w.heap.size, 0, none⟩ = false := by rw [bf2]; go_simp
      have q1 : w2.frozen? ⟨w.heap.size, 1, none⟩ = false := by rw [bf2]; go_simp
      have q2 : w2.frozen? ⟨w.heap.size, 2, none⟩ = false := by rw [bf2]; go_simp
      have n0 : w2.cell? ⟨w1.heap.size, 0, none⟩ = some (.int .u32 q.a) := by rw [nc2]; go_simp
      have n1 : w2.cell? ⟨w1.heap.size, 1, none⟩ = some (.int .u32 q.b) := by rw [nc2]; go_simp
      have n2 : w2.cell? ⟨w1.heap.size, 2, none⟩ = some (.int .u32 q.c) := by rw [nc2]; go_simp
      simp at hz2
      clear bc2 bf2 nc2 g0 g1 g2 e0 e1 e2
      have hT2 : out ++ [chr d] ++ (if ny = 0 then [] else digR ny) = T := by rw [← HEQ.out, HST.out, List.append_assoc]; rfl
      have HT2 := Lib.hid hT2
      have hO3 : w2.ownsRow (w.heap.size + 1) 9 1 v1 (out ++ [chr d]).length ((out ++ [chr d]).flatMap encS) := by
        rw [List.length_append, List.flatMap_append]
        have := HO2.out
        rw [piece d hd10] at this
        exact this
      have HO3 := Lib.hid hO3
      obtain ⟨g, cap, hv1, hbg, hgl⟩ := hO3.form (by simp)
      subst hv1
      clear hT2 hO3 HO2 HEQ HST
      go_wp2_with (fail)
      first
      | (go_at_call 81
         have hTe : out ++ [chr d] = T := by have := HT2.out; rw [if_pos H0.out, List.append_nil] at this; exact this
         rw [hTe] at HO3 ⊢
         have hO4 := ownsRow_setCell_below (ownsRow_setCell_below (ownsRow_setCell_below HO3.out (a := ⟨w.heap.size, 0, none⟩) (by simp) (.int .u32 q.a)) (a := ⟨w.heap.size, 1, none⟩) (by simp) (.int .u32 q.b)) (a := ⟨w.heap.size, 2, none⟩) (by simp) (.int .u32 q.c)
         refine (rev_any T (w.heap.size + 1) g cap _ hO4 (by omega) hbg).mono ?_
         rintro e w3 ⟨rfl, hb3, hc3⟩
         have hz3 := hb3.size
         simp at hz3
         have HB3 := Lib.hid hb3
         have HC3 := Lib.hid hc3
         have hcap := own_cap HO3.out
         clear hb3 hc3
         have hj := Tryd.strings_Join g 0 cap (T.reverse.map fun c => strOf [c]) ByteArray.empty w3 HC3.out (by omega) (by simp; omega) (by simpa using hcap) (by rw [show ByteArray.empty.data.toList = [] from rfl, join_bytes]; simp; omega)
         rw [show ByteArray.empty.data.toList = [] from rfl, join_bytes, List.length_map, List.length_reverse] at hj
         have HJ := Lib.hid hj
         clear hj
         go_wp2_with (fail)
         go_at_call 62
         refine HJ.out.mono ?_
         rintro e w4 ⟨rfl, hb4⟩
         have HB4 := Lib.hid hb4
         clear hb4
         go_wp2_with (fail)
         go_ret
         have b1 := below_then HB.out HB.out.size HB1.out
         have b2 := (blw_alloc b1 (.cells #[.int .u32 q.a, .int .u32 q.b, .int .u32 q.c] 95)).trans (HB2.out.mono (by omega))
         have b3 := ((b2.setCell (p := ⟨w.heap.size, 0, none⟩) (by simp) (.int .u32 q.a)).setCell (p := ⟨w.heap.size, 1, none⟩) (by simp) (.int .u32 q.b)).setCell (p := ⟨w.heap.size, 2, none⟩) (by simp) (.int .u32 q.c)
         have b4 := b3.trans (HB3.out.mono (by omega))
         exact ⟨rfl, below_then b4 b4.size HB4.out⟩)
      | (have b1 := below_then HB.out HB.out.size HB1.out
         have b2 := (blw_alloc b1 (.cells #[.int .u32 q.a, .int .u32 q.b, .int .u32 q.c] 95)).trans (HB2.out.mono (by omega))
         have b3 := ((b2.setCell (p := ⟨w.heap.size, 0, none⟩) (by simp) (.int .u32 q.a)).setCell (p := ⟨w.heap.size, 1, none⟩) (by simp) (.int .u32 q.b)).setCell (p := ⟨w.heap.size, 2, none⟩) (by simp) (.int .u32 q.c)
         have HB3 := Lib.hid b3
         have hL := own_lenOf HO.out
         have HLN := Lib.hid hL
         clear b1 b2 b3 hL
         go_roundw
         case rel =>
           refine ⟨out ++ [chr d], q, HOK.out, ?_, ?_, HB3.out, by simp; omega, ⟨?_, ?_, ?_⟩, ?_, ?_, ?_⟩
           · rw [HQ.out]
             have := HT2.out
             rw [if_neg H0.out] at this
             exact this
           · exact ownsRow_setCell_below (ownsRow_setCell_below (ownsRow_setCell_below HO3.out (a := ⟨w.heap.size, 0, none⟩) (by simp) (.int .u32 q.a)) (a := ⟨w.heap.size, 1, none⟩) (by simp) (.int .u32 q.b)) (a := ⟨w.heap.size, 2, none⟩) (by simp) (.int .u32 q.c)
           all_goals go_simp
         case measure =>
           rw [HLN.out]
           simp [lenOf]
           omega)
end Go.Proofs.YtccjcdecpgigpaaDoor.Show
