/- General lemmas for the walks: reading slices, rows of the call's own, append, strings. -/
import Derived.Test.YtccjcdecpgigpaaDoorProg
import Derived.WalkKit
import Derived.Below
import Derived.Lib.Hide
import Derived.Maps.AppendAt
import Derived.Laws.BytesArg
import Derived.Deep.AppendLies
import Derived.Deep.Slices
import Derived.Deep.QuietTactic
import Derived.BigQuiet
import Derived.Deep.LoopGhost
import Derived.Deep.DeepCutAuto
import Derived.WalkLawsBesides
import Derived.WalkSpells
namespace Go.Proofs.YtccjcdecpgigpaaDoor.Base
open Go.RowKit
set_option linter.unusedVariables false
set_option linter.unusedSimpArgs false
set_option maxRecDepth 20000

theorem ret_int {k : IntKind} {a b : Int} (h : a = b) : Ending.returned (.int k a) = .returned (.int k b) := by rw [h]
theorem ret_bool {a b : Bool} (h : a = b) : Ending.returned (.bool a) = .returned (.bool b) := by rw [h]
theorem ret_str {a b : ByteArray} (h : a = b) : Ending.returned (.string a) = .returned (.string b) := by rw [h]
theorem ret2 {k : IntKind} {a b : Int} {v : Value} (h : a = b) : Ending.returned (.tuple #[.int k a, v]) = .returned (.tuple #[.int k b, v]) := by rw [h]

theorem data_ne (s : ByteArray) (h : 0 < s.size) : s.toList.isEmpty = false := by
  cases hl : s.toList.isEmpty with
  | false => rfl
  | true =>
    rw [ByteArray.toList_eq, List.isEmpty_iff] at hl
    have : s.data.toList.length = s.size := by simp
    rw [hl] at this
    simp at this
    omega
theorem data_nil (s : ByteArray) (h : s.size = 0) : s.toList = [] := by
  rw [ByteArray.toList_eq]
  exact List.eq_nil_of_length_eq_zero (by simpa using h)
theorem take_snoc (s : ByteArray) (k : Nat) (h : k < s.size) : s.data.toList.take (k + 1) = s.data.toList.take k ++ [s[k]'h] := by
  rw [List.take_succ_eq_append_getElem (by simpa using h)]; rfl

theorem below_iter (w : World) (s : ByteArray) (p : Nat) : Below w.heap.size w (w.iter s p) := (Below.refl _ _).alloc (Nat.le_refl _) _
theorem below_then {B : Nat} {w w1 w2 : World} (h : Below B w w1) (hB : B ≤ w1.heap.size) (k : Below w1.heap.size w1 w2) : Below B w w2 := h.trans (k.mono hB)
theorem below_then' {w w1 w2 : World} (h : Below w.heap.size w w1) (k : Below w1.heap.size w1 w2) : Below w.heap.size w w2 := h.trans (k.mono h.size)
theorem blw_alloc {w W : World} (h : Below w.heap.size w W) (o : Obj) : Below w.heap.size w (W.alloc o) := h.alloc h.size o
theorem bcell {W w1 : World} (hb : Below W.heap.size W w1) : (∀ b o, b < W.heap.size → w1.cell? ⟨b, o, none⟩ = W.cell? ⟨b, o, none⟩) ∧ (∀ b o, b < W.heap.size → w1.frozen? ⟨b, o, none⟩ = W.frozen? ⟨b, o, none⟩) :=
  ⟨fun b o h => hb.cell (p := ⟨b, o, none⟩) h, fun b o h => hb.frozen (p := ⟨b, o, none⟩) h⟩
theorem add_plain (g j : Nat) : (⟨g, 0, none⟩ : Addr).add j = ⟨g, j, none⟩ := by unfold Addr.add; split <;> simp_all
theorem add_plain' (g o j : Nat) : (⟨g, o, none⟩ : Addr).add j = ⟨g, o + j, none⟩ := by unfold Addr.add; split <;> simp_all
theorem add_block (a : Addr) (j : Nat) : (a.add j).block = a.block := by unfold Addr.add; split <;> simp_all

/-! ### reading a slice: elements of 'size' cells each -/
def RdE {α : Type} (size : Nat) (enc : α → List Value) (w : World) (A : Option Addr) (xs : List α) : Prop :=
  xs.length ≤ 9223372036854775807 ∧ (xs ≠ [] → ∃ ad, A = some ad ∧ ∀ i x, xs[i]? = some x → ∀ j u, (enc x)[j]? = some u → w.cell? (ad.add (i * size + j)) = some u)
theorem RdE.nil {α : Type} {size : Nat} {enc : α → List Value} {w : World} {A : Option Addr} : RdE size enc w A ([] : List α) := ⟨by simp, fun h => absurd rfl h⟩
theorem RdE.below {α : Type} {size : Nat} {enc : α → List Value} {w w1 : World} {A : Option Addr} {xs : List α} (h : RdE size enc w A xs) (hb : Below w.heap.size w w1) : RdE size enc w1 A xs :=
  ⟨h.1, fun hn => by
    obtain ⟨ad, e, hc⟩ := h.2 hn
    refine ⟨ad, e, fun i x hx j u hu => ?_⟩
    have h1 := hc i x hx j u hu
    exact (hb.cell (World.block_lt_of_cell? w _ h1)).trans h1⟩
theorem RdE.at1 {α : Type} {enc : α → List Value} {w : World} {A : Option Addr} {xs : List α} (h : RdE 1 enc w A xs) (i : Nat) (hi : i < xs.length) (u : Value) (hu : enc (xs[i]'hi) = [u]) : ∃ ad, A = some ad ∧ w.cell? (ad.add i) = some u := by
  obtain ⟨ad, e, hc⟩ := h.2 (by intro hn; subst hn; simp at hi)
  exact ⟨ad, e, by simpa using hc i _ (List.getElem?_eq_getElem hi) 0 u (by rw [hu]; rfl)⟩

theorem add_field (ad : Addr) (m j : Nat) (hj : 0 < j) : ad.add (m + j) = ⟨(ad.add m).block, (ad.add m).off + j, none⟩ := by
  unfold Addr.add
  by_cases hm : m = 0
  · subst hm
    simp [Nat.ne_of_gt hj]
  · simp [hm, Nat.add_assoc]
/-- An element of two cells. -/
theorem RdE.at2 {α : Type} {enc : α → List Value} {w : World} {A : Option Addr} {xs : List α} (h : RdE 2 enc w A xs) (i : Nat) (hi : i < xs.length) (u v : Value) (hu : enc (xs[i]'hi) = [u, v]) :
    ∃ ad, A = some ad ∧ w.cell? (ad.add (i * 2)) = some u ∧ w.cell? ⟨(ad.add (i * 2)).block, (ad.add (i * 2)).off + 1, none⟩ = some v := by
  obtain ⟨ad, e, hc⟩ := h.2 (by intro hn; subst hn; simp at hi)
  refine ⟨ad, e, by simpa using hc i _ (List.getElem?_eq_getElem hi) 0 u (by rw [hu]; rfl), ?_⟩
  rw [← add_field _ _ 1 (by omega)]
  exact hc i _ (List.getElem?_eq_getElem hi) 1 v (by rw [hu]; rfl)
theorem RdE.at3 {α : Type} {enc : α → List Value} {w : World} {A : Option Addr} {xs : List α} (h : RdE 3 enc w A xs) (i : Nat) (hi : i < xs.length) (u v z : Value) (hu : enc (xs[i]'hi) = [u, v, z]) :
    ∃ ad, A = some ad ∧ w.cell? (ad.add (i * 3)) = some u ∧ w.cell? ⟨(ad.add (i * 3)).block, (ad.add (i * 3)).off + 1, none⟩ = some v ∧ w.cell? ⟨(ad.add (i * 3)).block, (ad.add (i * 3)).off + 2, none⟩ = some z := by
  obtain ⟨ad, e, hc⟩ := h.2 (by intro hn; subst hn; simp at hi)
  refine ⟨ad, e, by simpa using hc i _ (List.getElem?_eq_getElem hi) 0 u (by rw [hu]; rfl), ?_, ?_⟩
  · rw [← add_field _ _ 1 (by omega)]
    exact hc i _ (List.getElem?_eq_getElem hi) 1 v (by rw [hu]; rfl)
  · rw [← add_field _ _ 2 (by omega)]
    exact hc i _ (List.getElem?_eq_getElem hi) 2 z (by rw [hu]; rfl)
theorem RdE.take {α : Type} {size : Nat} {enc : α → List Value} {w : World} {A : Option Addr} {xs : List α} (h : RdE size enc w A xs) (k : Nat) : RdE size enc w A (xs.take k) :=
  ⟨by have := h.1; simp; omega, fun hn => by
    obtain ⟨ad, e, hc⟩ := h.2 (by intro he; subst he; simp at hn)
    refine ⟨ad, e, fun i x hx j u hu => hc i x ?_ j u hu⟩
    rw [List.getElem?_take] at hx
    split at hx
    · exact hx
    · cases hx⟩

/-! ### a row of the call's own -/
theorem own_read {α : Type} {size : Nat} {enc : α → List Value} (hs : ∀ x, (enc x).length = size) (hp : 0 < size) {w : World} {base : Nat} {e : TypeId} {v : Value} {xs : List α}
    (h : w.ownsRow base e size v xs.length (xs.flatMap enc)) : ∃ A c, v = .slice A xs.length c ∧ RdE size enc w A xs := by
  have hm : xs.length ≤ 9223372036854775807 := by
    rcases h.2 with ⟨_, h1⟩ | ⟨g', cap', cur, he, _, _, h1, h2, _⟩
    · omega
    · simp only [maxLen] at h2
      omega
  rcases Nat.eq_zero_or_pos xs.length with h0 | h0
  · obtain rfl : xs = [] := List.eq_nil_of_length_eq_zero h0
    rcases h.2 with ⟨rfl, _⟩ | ⟨g, cap, cur, rfl, _⟩
    · exact ⟨none, 0, rfl, RdE.nil⟩
    · exact ⟨_, cap, rfl, RdE.nil⟩
  · obtain ⟨g, cap, rfl, _, _⟩ := h.form h0
    refine ⟨_, cap, rfl, hm, fun _ => ⟨_, rfl, fun i x hx j u hu => h.cells (g := g) rfl _ _ ?_⟩⟩
    have hflat : ∀ (l : List α) (i : Nat) (x : α), l[i]? = some x → ∀ j u, (enc x)[j]? = some u → (l.flatMap enc)[i * size + j]? = some u := by
      intro l
      induction l with
      | nil => intro i x hx; simp at hx
      | cons y l ih =>
        intro i x hx j u hu
        cases i with
        | zero =>
          simp at hx; subst hx
          have hj : j < (enc y).length := (List.getElem?_eq_some_iff.1 hu).1
          simp only [List.flatMap_cons, Nat.zero_mul, Nat.zero_add]
          rw [List.getElem?_append_left hj]; exact hu
        | succ i =>
          simp at hx
          simp only [List.flatMap_cons]
          rw [List.getElem?_append_right (by rw [hs]; rw [Nat.succ_mul]; omega), hs]
          have : (i + 1) * size + j - size = i * size + j := by rw [Nat.succ_mul]; omega
          rw [this]
          exact ih i x hx j u hu
    exact hflat xs i x hx j u hu
theorem own_cap {w : World} {base : Nat} {e : TypeId} {size n : Nat} {A : Option Addr} {c : Nat} {xs : List Value} (h : w.ownsRow base e size (.slice A n c) n xs) : n ≤ c := by
  rcases h.2 with ⟨h', h0⟩ | ⟨g', cap', cur, he, _, _, h1, _⟩
  · simp at h'; omega
  · simp only [Value.slice.injEq] at he
    omega
theorem own_addr {w : World} {base : Nat} {e : TypeId} {size n : Nat} {A : Option Addr} {c : Nat} {xs : List Value} (h : w.ownsRow base e size (.slice A n c) n xs) (h0 : 0 < n) : ∃ g, A = some ⟨g, 0, none⟩ ∧ base ≤ g ∧ g < w.heap.size := by
  rcases h.2 with ⟨h', h1⟩ | ⟨g', cap', cur, he, _⟩
  · omega
  · simp only [Value.slice.injEq] at he
    obtain ⟨rfl, _⟩ := he
    have := h.lt g' (by simp [Value.ownBlock])
    exact ⟨g', rfl, this.1, this.2⟩
theorem RdE.drop {α : Type} {size : Nat} {enc : α → List Value} {w : World} {ad : Addr} {xs : List α} (h : RdE size enc w (some ad) xs) (k : Nat) : RdE size enc w (some (ad.add (k * size))) (xs.drop k) :=
  ⟨by have := h.1; simp; omega, fun hn => by
    obtain ⟨ad', e, hc⟩ := h.2 (by intro he; subst he; simp at hn)
    cases e
    refine ⟨_, rfl, fun i x hx j u hu => ?_⟩
    rw [List.getElem?_drop] at hx
    rw [Go.Deep.add_add, ← Nat.add_assoc, ← Nat.add_mul]
    exact hc _ x hx j u hu⟩
theorem own_base {w : World} {base : Nat} {e : TypeId} {size n : Nat} {v : Value} {xs : List Value} (h : w.ownsRow base e size v n xs) (k : Nat) (hk : v.ownBlock = some k) : base ≤ k := (h.lt k hk).1

section
variable {P : Program} {ops : Array Oper} {rest : List Oper} {o : Oper} {a : Act} {Q : Exit → Act → World → Prop}
/-- append(v, x), x one element of 'size' cells: the variadic's box is the goal's last block. -/
theorem app1 {w0 W : World} (base : Nat) (hgd : o.guard = none) (s x : Operand) (t e : TypeId) (z : Value) (size bytes : Nat)
    (ho : o.op = .call { callee := .builtin .append, args := #[s, x], argTypes := #[t, t] })
    (ht : P.underlying t = some (.slice e)) (hinfo : (P.info? e).map (fun i => (i.zero, i.size, i.bytes)) = some (some z, size, bytes)) (hz : z.cells.size = size) (hs0 : 0 < size) (hb0 : 0 < bytes)
    (v : Value) (n : Nat) (xs cs : List Value) (hs : a.eval s = v) (hx : a.eval x = .slice (some ⟨W.heap.size, 0, none⟩) 1 1) (hcs : cs.length = size) (h1 : ∀ u ∈ cs, u.oneCell' = true)
    (HO : W.ownsRow base e size v n xs) (HB : Below base w0 W) (hbase : base ≤ W.heap.size) (hl : (n + 1) * bytes ≤ 140737488355328)
    (h : ∀ v1 w1, w1.ownsRow base e size v1 (n + 1) (xs ++ cs) → Below base w0 w1 → W.grownBy w1 v.ownBlock → (v1.ownBlock = v.ownBlock ∨ ∃ b, v1.ownBlock = some b ∧ W.heap.size ≤ b) → wpList P ops Q rest (a.put o.dst v1) w1) :
    wpList P ops Q (o :: rest) a (W.alloc (.cells cs.toArray e)) := by
  obtain ⟨i0, hi, hzz⟩ := Option.map_eq_some_iff.1 hinfo
  simp only [Prod.mk.injEq] at hzz
  obtain ⟨hz0, hz1, hz2⟩ := hzz
  have hlen : n + 1 ≤ 140737488355328 := Nat.le_trans (Nat.le_mul_of_pos_right _ hb0) hl
  refine wpList_append_own_at (W.alloc (.cells cs.toArray e)) hgd s x t ho base e i0 z size bytes ht hi hz0 hz1 hz2 hz hs0 v n xs hs (HO.alloc _) ⟨W.heap.size, 0, none⟩ 1 1 cs hx (by rw [hcs]; omega)
    (fun j u hj => World.news_of_block (cs := cs.toArray) (t := e) (fr := (0, 0)) (MapKept.heap_alloc W _).1 j u (by simpa using hj)) h1 (by simp only [maxLen]; omega) hl (by simp; omega) ?_
  intro v1 w1 hown hg _ hat
  refine h v1 w1 hown ((HB.alloc hbase _).grown hg (by simp; omega) (own_base HO)) (World.grownBy.trans (World.grownBy_alloc W _ _) hg) ?_
  rcases hat with hat | hat
  · exact .inl hat
  · exact .inr ⟨_, hat, by simp⟩
end

/-! ### string(b) -/
def strOf (xs : List UInt8) : ByteArray := ⟨xs.toArray⟩
def encB (c : UInt8) : List Value := [.int .u8 (c.toNat : Int)]
def encI (n : Int) : List Value := [.int .i64 n]
def encW (n : UInt32) : List Value := [.int .u32 (n.toNat : Int)]
theorem string_of_rd {P : Program} {w : World} {src dst e : TypeId} {A : Option Addr} {c : Nat} {xs : List UInt8} (hs : P.underlying src = some (.slice e)) (he : P.underlying e = some (.int .u8)) (hd : P.underlying dst = some .string)
    (h : RdE 1 encB w A xs) : (convert src dst (.slice A xs.length c)).run P w = .ok (.string (strOf xs)) w := by
  rw [run_convert_bytes_string w src dst e _ _ _ hs he hd]
  have hfold : ∀ (l : List UInt8) (s : ByteArray), (l.map fun c : UInt8 => (c.toNat : Int)).foldl (fun r n => r.push (UInt8.ofNat n.toNat)) s = ⟨s.data ++ l.toArray⟩ := by
    intro l
    induction l with
    | nil => intro s; simp
    | cons c l ih =>
      intro s
      simp only [List.map_cons, List.foldl_cons]
      rw [ih]
      congr 1
      simp [ByteArray.push]
  cases A with
  | none =>
    have : xs = [] := by
      cases xs with
      | nil => rfl
      | cons x xs => obtain ⟨ad, e, _⟩ := h.2 (by simp); cases e
    subst this
    rfl
  | some ad =>
    have hl : (loadCells ad xs.length).run P w = .ok ((xs.map fun c : UInt8 => (c.toNat : Int)).map (Value.int .u8)).toArray w := by
      have := run_loadCells_list (P := P) w ad ((xs.map fun c : UInt8 => (c.toNat : Int)).map (Value.int .u8)) (fun j v hj => by
        have hjl : j < xs.length := by
          have := (List.getElem?_eq_some_iff.1 hj).1
          simpa using this
        obtain ⟨ad', e', hc⟩ := h.2 (by intro hn; subst hn; simp at hjl)
        cases e'
        have := hc j xs[j] (List.getElem?_eq_getElem hjl) 0 v (by
          simp [List.getElem?_eq_getElem hjl] at hj
          simp [encB, hj])
        simpa using this)
      simpa using this
    rw [run_bytesToString w ad xs.length c _ hl, hfold]
    simp [strOf, ByteArray.empty, ByteArray.emptyWithCapacity]
    rfl
theorem strOf_size (xs : List UInt8) : (strOf xs).size = xs.length := by simp [strOf, ByteArray.size]
theorem strOf_data (xs : List UInt8) : (strOf xs).data.toList = xs := by simp [strOf]

theorem quiet_same {P : Program} {f : FuncId} {args : Array Value} {w : World} {n : Nat} {v : Value}
    (h : Calls P f args (w.drewN n) fun e w' => e = .returned v ∧ w.drewN n = w') : Calls P f args (w.drewN n) fun e w'' => e = .returned v ∧ ∃ m, w'' = w.drewN m :=
  h.mono fun _ _ ⟨he, hm⟩ => ⟨he, n, hm.symm⟩

theorem blw_drewN (B : Nat) (w : World) (n : Nat) : Below B w (w.drewN n) := ⟨rfl, rfl, rfl, Nat.le_refl _, fun _ _ => rfl⟩
theorem blw_step {B : Nat} {a w : World} (h : Below B a w) (n : Nat) : Below B a (w.drewN n) := h.trans (blw_drewN _ _ _)

/-! ### texts as lists of bytes -/
theorem bytes_append (a b : ByteArray) : (a ++ b).data.toList = a.data.toList ++ b.data.toList := by simp [ByteArray.data_append]
theorem bytes_extract (s : ByteArray) (i j : Nat) : (s.extract i j).data.toList = (s.data.toList.take j).drop i := by
  simp [ByteArray.data_extract, Array.toList_extract, List.extract_eq_take_drop, List.drop_take]
theorem bytes_len (s : ByteArray) : s.data.toList.length = s.size := by simp
theorem bytes_at (s : ByteArray) (i : Nat) (h : i < s.size) : s.data.toList[i]? = some (s[i]'h) := by
  rw [List.getElem?_eq_getElem (by simpa using h)]; rfl
theorem bytes_toList (s : ByteArray) : s.toList = s.data.toList := ByteArray.toList_eq s
theorem bytes_ext {a b : ByteArray} (h : a.data.toList = b.data.toList) : a = b := by
  cases a; cases b; simp at h; simp [h]
theorem bytes_split (s : ByteArray) (i : Nat) (h : i < s.size) : s.data.toList = s.data.toList.take i ++ [s[i]'h] ++ s.data.toList.drop (i + 1) := by
  rw [← take_snoc s i h, List.take_append_drop]

theorem snoc_ind {α : Type} {P : List α → Prop} (h0 : P []) (hs : ∀ l c, P l → P (l ++ [c])) (l : List α) : P l := by
  rw [← List.reverse_reverse l]
  induction l.reverse with
  | nil => exact h0
  | cons c l ih => rw [List.reverse_cons]; exact hs _ _ ih

/-! ### picked -/
def pk (n m : Int) : Int := if n < 0 then (-(n + 1)) % m else n % m
theorem pk_bound (n m : Int) (hm : 0 < m) : 0 ≤ pk n m ∧ pk n m < m := by
  unfold pk
  split
  · exact ⟨Int.emod_nonneg _ (by omega), Int.emod_lt_of_pos _ hm⟩
  · exact ⟨Int.emod_nonneg _ (by omega), Int.emod_lt_of_pos _ hm⟩
theorem i64_bound {n : Int} (h : (Lit.int .i64 n).wf = true) : -9223372036854775808 ≤ n ∧ n ≤ 9223372036854775807 := by
  simp [Lit.wf, IntKind.min, IntKind.max, IntKind.bits, IntKind.signed] at h; omega

theorem picked_any (n m : Int) (w : World) (h0 : -9223372036854775808 ≤ n) (h1 : n ≤ 9223372036854775807) (hm : 0 < m) :
    Calls Tryd.prog 17 #[.int .i64 n, .int .i64 m] w fun e w' => e = .returned (.int .i64 (pk n m)) ∧ w = w' := by
  have hz : (m == 0) = false := beq_eq_false_iff_ne.mpr (by omega)
  have hz' : (m != 0) = true := bne_iff_ne.mpr (by omega)
  by_cases hn : n < 0
  · have E := Lib.hid (show -(n + 1).tmod m = pk n m by unfold pk; rw [if_pos hn, ← Int.neg_tmod, Int.tmod_eq_emod_of_nonneg (by omega)])
    go_enter Tryd.func17, Tryd.ntmps17
    go_wp2
    go_ret
    exact ⟨ret_int E.out, rfl⟩
  · have E := Lib.hid (show n % m = pk n m by unfold pk; rw [if_neg hn])
    go_enter Tryd.func17, Tryd.ntmps17
    go_wp2
    go_ret
    exact ⟨ret_int E.out, rfl⟩
end Go.Proofs.YtccjcdecpgigpaaDoor.Base
