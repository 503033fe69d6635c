/- Contracts of the laws' helpers: numerals, slipped, swapped. -/
import Derived.Test.YthalkihhkkgkiaaDoorBase
import Derived.RegionTactic
import Derived.ChangeAlike
import Derived.Deep.RegionHeld3
namespace Go.Proofs.YthalkihhkkgkiaaDoor.Num
open Go.RowKit Go.Proofs.YthalkihhkkgkiaaDoor.Base
set_option linter.unusedVariables false
set_option linter.unusedSimpArgs false
set_option maxRecDepth 20000

theorem info_u8 : (Tryd.prog.info? 5).map (fun i => (i.zero, i.size, i.bytes)) = some (some (.int .u8 0), 1, 1) := by kernel_rfl

/-! ### numerals -/
def digOf (c : UInt8) : UInt8 := 48 + c % 10
def numL (raw : List UInt8) (most : Nat) : List UInt8 := (raw.take most).map digOf
def numerals (raw : List UInt8) (most : Nat) : ByteArray := if numL raw most = [] then ⟨#[48]⟩ else strOf (numL raw most)
theorem digOf_val (c : UInt8) : ((digOf c).toNat : Int) = 48 + (c.toNat : Int) % 10 := by
  unfold digOf
  rw [UInt8.toNat_add, UInt8.toNat_mod]
  have := c.toNat_lt
  simp
  omega
theorem numL_succ (raw : List UInt8) (k : Nat) (h : k < raw.length) : numL raw (k + 1) = numL raw k ++ [digOf (raw[k]'h)] := by
  unfold numL
  rw [List.take_succ_eq_append_getElem h, List.map_append]; rfl

theorem numerals_any (raw : List UInt8) (most : Nat) (A : Option Addr) (c : Nat) (w : World) (hr : RdE 1 encB w A raw) (hm : most ≤ 1000) (hpos : 0 < most) :
    Calls Tryd.prog 7 #[.slice A raw.length c, .int .i64 most] w fun e w' => e = .returned (.string (numerals raw most)) ∧ Below w.heap.size w w' := by
  have hmx := hr.1
  have HR := Lib.hid hr
  clear hr
  go_enter Tryd.func7, Tryd.ntmps7
  go_wp2
  go_loopw [5, 6] (fun b i wr => ∃ k : Nat, k ≤ raw.length ∧ k ≤ most ∧ i = .int .i64 k ∧ wr.ownsRow w.heap.size 5 1 b (numL raw k).length ((numL raw k).flatMap encB) ∧ Below w.heap.size w wr) (fun _ i _ => raw.length - (intOf i).toNat)
  case atStart => exact ⟨0, by omega, by omega, rfl, World.ownsRow_nil _ _ _ _, Below.refl _ _⟩
  case round =>
    obtain ⟨k, hk, hkm, rfl, hown0, hb0⟩ := hrel
    have HO := Lib.hid hown0
    have HB := Lib.hid hb0
    clear hown0 hb0
    by_cases hlt : k < raw.length ∧ k < most
    · obtain ⟨h1, h2⟩ := hlt
      obtain ⟨ad, rfl, hc⟩ := (HR.out.below HB.out).at1 k h1 _ rfl
      have hs := Lib.hid (numL_succ raw k h1)
      have hln : (numL raw k).length ≤ k := by unfold numL; simp; omega
      have hv := Lib.hid (digOf_val raw[k])
      go_wp2_with (at_builtin; refine app1 (w0 := w) w.heap.size rfl (.tmp 18) (.tmp 25) 22 5 (.int .u8 0) 1 1 rfl Tryd.underlying22 info_u8 rfl (by decide) (by decide) _ _ _ [.int .u8 (48 + (raw[k].toNat : Int) % 10)] rfl rfl rfl ?c1 HO.out HB.out HB.out.size ?c2 ?_; (case c1 => intro u hu; simp at hu; subst hu; rfl); (case c2 => omega); intro v1 w1 ho1 hb1 _ _)
      go_roundw
      case rel =>
        refine ⟨k + 1, by omega, by omega, by go_num, ?_, hb1⟩
        rw [hs.out, List.flatMap_append, List.length_append]
        have he : [digOf raw[k]].flatMap encB = [.int .u8 (48 + (raw[k].toNat : Int) % 10)] := by simp [encB, hv.out]
        rw [he]
        exact ho1
      case measure => simp [intOf]; omega
    · obtain ⟨A1, c1, rfl, hrd⟩ := own_read (enc := encB) (fun _ => rfl) (by decide) HO.out
      have hl : (numL raw k) = numL raw most := by
        unfold numL
        rcases Nat.lt_or_ge k raw.length with h | h
        · have : k = most := by omega
          rw [this]
        · rw [List.take_of_length_le (by omega), List.take_of_length_le (by omega)]
      have HL := Lib.hid hl
      have hcv := string_of_rd (P := Tryd.prog) (c := c1) Tryd.underlying22 Tryd.underlying5 Tryd.underlying9 hrd
      clear hl
      have HRD := Lib.hid hrd
      clear hrd
      by_cases h0 : (numL raw k).length = 0
      · have e1 : (((numL raw k).length : Int) == 0) = true := by rw [h0]; rfl
        have hn : numerals raw most = ⟨#[48]⟩ := by
          unfold numerals
          rw [← HL.out, if_pos (List.eq_nil_of_length_eq_zero h0)]
        have HN := Lib.hid hn
        clear hn h0
        by_cases hlt1 : k < raw.length
        all_goals
          go_wp2
          go_ret
          exact ⟨ret_str HN.out.symm, HB.out⟩
      · have e1 : (((numL raw k).length : Int) == 0) = false := beq_eq_false_iff_ne.mpr (by omega)
        have e2 : ¬ numL raw k = [] := fun h => h0 (by rw [h]; rfl)
        have hn : numerals raw most = strOf (numL raw k) := by
          unfold numerals
          rw [← HL.out, if_neg e2]
        have HN := Lib.hid hn
        clear hn h0
        by_cases hlt1 : k < raw.length
        all_goals
          go_wp2
          go_ret
          exact ⟨ret_str HN.out.symm, HB.out⟩

theorem numerals_at (raw : List UInt8) (most : Nat) (m : Int) (A : Option Addr) (c : Nat) (w : World) (hr : RdE 1 encB w A raw) (e : m = (most : Int)) (hm : most ≤ 1000) (hpos : 0 < most) :
    Calls Tryd.prog 7 #[.slice A raw.length c, .int .i64 m] w fun e w' => e = .returned (.string (numerals raw most)) ∧ Below w.heap.size w w' := by
  subst e
  exact numerals_any raw most A c w hr hm hpos

/-! ### slipped -/
/-- One byte as a text. -/
def one (n : Int) : ByteArray := ⟨#[UInt8.ofNat n.toNat]⟩
theorem one_list (n : Int) : (one n).data.toList = [UInt8.ofNat n.toNat] := rfl
theorem one_size (n : Int) : (one n).size = 1 := rfl
theorem conv0 (W : World) (n : Int) (h0 : 0 ≤ n) (h1 : n < 256) : (convert 22 9 (.slice (some ⟨W.heap.size, 0, none⟩) 1 1)).run Tryd.prog (W.alloc (.cells #[.int .u8 n] 5)) = .ok (.string (one n)) (W.alloc (.cells #[.int .u8 n] 5)) := by
  have hn : (UInt8.ofNat n.toNat).toNat = n.toNat := by simp; omega
  refine string_of_rd (c := 1) (xs := [UInt8.ofNat n.toNat]) Tryd.underlying22 Tryd.underlying5 Tryd.underlying9 ⟨by simp, fun _ => ⟨_, rfl, ?_⟩⟩
  intro i x hx j u hu
  have hi : i = 0 := by have := (List.getElem?_eq_some_iff.1 hx).1; simpa using this
  subst hi
  simp at hx; subst hx
  have hj : j = 0 := by have := (List.getElem?_eq_some_iff.1 hu).1; simpa [encB] using this
  subst hj
  simp [encB] at hu; subst hu
  have := cell_one_new W (.int .u8 n) 5 0 _ rfl
  have e : max n 0 % 256 = n := by omega
  rw [e]
  exact this
theorem conv1 (w : World) (k : Nat) (n : Int) (h0 : 0 ≤ n) (h1 : n < 256) : (convert 22 9 (.slice (some ⟨w.heap.size, 0, none⟩) 1 1)).run Tryd.prog ((w.drewN k).alloc (.cells #[.int .u8 n] 5)) = .ok (.string (one n)) ((w.drewN k).alloc (.cells #[.int .u8 n] 5)) :=
  conv0 (w.drewN k) n h0 h1
def slipD (c : UInt8) (b : Int) : Int := ((c.toNat : Int) - 48 + 1 + b) % 10
def slipped (s : ByteArray) (i : Nat) (d : Nat) : ByteArray := s.extract 0 i ++ one (48 + d) ++ s.extract (i + 1) s.size



























/-! ### swapped -/
def swapped (s : ByteArray) (i far : Nat) : ByteArray := s.extract 0 i ++ s.extract (i + far) (i + far + 1) ++ s.extract (i + 1) (i + far) ++ s.extract i (i + 1) ++ s.extract (i + far + 1) s.size
















end Go.Proofs.YthalkihhkkgkiaaDoor.Num
