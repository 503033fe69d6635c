/- Contracts of the laws' helpers: numerals, slipped, swapped. -/
import Derived.Test.YtccjcdecpgigpaaDoorBase
import Derived.RegionTactic
import Derived.ChangeAlike
import Derived.Deep.RegionHeld3
namespace Go.Proofs.YtccjcdecpgigpaaDoor.Num
open Go.RowKit Go.Proofs.YtccjcdecpgigpaaDoor.Base
set_option linter.unusedVariables false
set_option linter.unusedSimpArgs false
set_option maxRecDepth 20000

theorem info_u8 : (Tryd.prog.info? 5).map (fun i => (i.zero, i.size, i.bytes)) = some (some (.int .u8 0), 1, 1) := by kernel_rfl

/-! ### numerals -/
def digOf (c : UInt8) : UInt8 := 48 + c % 10
def numL (raw : List UInt8) (most : Nat) : List UInt8 := (raw.take most).map digOf
def numerals (raw : List UInt8) (most : Nat) : ByteArray := if numL raw most = [] then ⟨#[48]⟩ else strOf (numL raw most)
theorem digOf_val (c : UInt8) : ((digOf c).toNat : Int) = 48 + (c.toNat : Int) % 10 := by
  unfold digOf
  rw [UInt8.toNat_add, UInt8.toNat_mod]
  have := c.toNat_lt
  simp
  omega
theorem numL_succ (raw : List UInt8) (k : Nat) (h : k < raw.length) : numL raw (k + 1) = numL raw k ++ [digOf (raw[k]'h)] := by
  unfold numL
  rw [List.take_succ_eq_append_getElem h, List.map_append]; rfl








































































/-! ### slipped -/
/-- One byte as a text. -/
def one (n : Int) : ByteArray := ⟨#[UInt8.ofNat n.toNat]⟩
theorem one_list (n : Int) : (one n).data.toList = [UInt8.ofNat n.toNat] := rfl
theorem one_size (n : Int) : (one n).size = 1 := rfl
theorem conv0 (W : World) (n : Int) (h0 : 0 ≤ n) (h1 : n < 256) : (convert 109 9 (.slice (some ⟨W.heap.size, 0, none⟩) 1 1)).run Tryd.prog (W.alloc (.cells #[.int .u8 n] 5)) = .ok (.string (one n)) (W.alloc (.cells #[.int .u8 n] 5)) := by
  have hn : (UInt8.ofNat n.toNat).toNat = n.toNat := by simp; omega
  refine string_of_rd (c := 1) (xs := [UInt8.ofNat n.toNat]) Tryd.underlying109 Tryd.underlying5 Tryd.underlying9 ⟨by simp, fun _ => ⟨_, rfl, ?_⟩⟩
  intro i x hx j u hu
  have hi : i = 0 := by have := (List.getElem?_eq_some_iff.1 hx).1; simpa using this
  subst hi
  simp at hx; subst hx
  have hj : j = 0 := by have := (List.getElem?_eq_some_iff.1 hu).1; simpa [encB] using this
  subst hj
  simp [encB] at hu; subst hu
  have := cell_one_new W (.int .u8 n) 5 0 _ rfl
  have e : max n 0 % 256 = n := by omega
  rw [e]
  exact this
theorem conv1 (w : World) (k : Nat) (n : Int) (h0 : 0 ≤ n) (h1 : n < 256) : (convert 109 9 (.slice (some ⟨w.heap.size, 0, none⟩) 1 1)).run Tryd.prog ((w.drewN k).alloc (.cells #[.int .u8 n] 5)) = .ok (.string (one n)) ((w.drewN k).alloc (.cells #[.int .u8 n] 5)) :=
  conv0 (w.drewN k) n h0 h1
def slipD (c : UInt8) (b : Int) : Int := ((c.toNat : Int) - 48 + 1 + b) % 10
def slipped (s : ByteArray) (i : Nat) (d : Nat) : ByteArray := s.extract 0 i ++ one (48 + d) ++ s.extract (i + 1) s.size
theorem slipped_any (s : ByteArray) (at_ by_ : Int) (w : World) (h0 : 0 < s.size) (hm : s.size ≤ 1000) (ha0 : -9223372036854775808 ≤ at_) (ha1 : at_ ≤ 9223372036854775807) (hb0 : -9223372036854775808 ≤ by_) (hb1 : by_ ≤ 9223372036854775807)
    (i : Nat) (hi : i < s.size) (hpi : pk at_ s.size = i) (hdig : 48 ≤ (s[i]'hi).toNat ∧ (s[i]'hi).toNat ≤ 57) :
    Calls Tryd.prog 19 #[.string s, .int .i64 at_, .int .i64 by_] w fun e w' => e = .returned (.string (slipped s i (slipD (s[i]'hi) (pk by_ 9)).toNat)) ∧ Below w.heap.size w w' := by
  have HI := Lib.hid hpi
  clear hpi
  obtain ⟨hd1, hd2⟩ := hdig
  obtain ⟨hp1, hp2⟩ := pk_bound by_ 9 (by omega)
  have hpk := fun w => picked_any by_ 9 w hb0 hb1 (by omega)
  go_enter Tryd.func19, Tryd.ntmps19
  go_wp2_with (go_at_call 17; refine (picked_any _ _ _ ha0 ha1 (by omega)).mono ?_; rw [HI.out]; rintro e w' ⟨rfl, rfl⟩)
  go_quiet ((go_at_call 17; exact quiet_same (picked_any by_ 9 _ hb0 hb1 (by omega))))
  have hcv := fun k => conv1 w k ((48 + ((s[i]'hi).toNat - 48 + 1 + pk by_ 9) % 10)) (by omega) (by omega)
  have hle : i ≤ s.size := by omega
  have hle1 : i + 1 ≤ s.size := by omega
  have hz1 : s.size - (i + 1) ≤ 9223372036854775807 := by omega
  have hz2 := one_size (48 + ((s[i]'hi).toNat - 48 + 1 + pk by_ 9) % 10)
  go_wp2
  go_region
  go_wp2
  go_ret
  refine ⟨ret_str ?_, ?_⟩
  · unfold slipped slipD
    have e : (48 + ((s[i].toNat : Int) - 48 + 1 + pk by_ 9) % 10) = 48 + (((((s[i].toNat : Int) - 48 + 1 + pk by_ 9) % 10).toNat : Nat) : Int) := by omega
    rw [e]
  · refine Below.alloc ?_ (by simp) _
    exact ⟨rfl, rfl, rfl, Nat.le_refl _, fun _ _ => rfl⟩

/-! ### swapped -/
def swapped (s : ByteArray) (i far : Nat) : ByteArray := s.extract 0 i ++ s.extract (i + far) (i + far + 1) ++ s.extract (i + 1) (i + far) ++ s.extract i (i + 1) ++ s.extract (i + far + 1) s.size
theorem swapped_any (s : ByteArray) (at_ : Int) (far : Nat) (w : World) (hf : 1 ≤ far) (hm : s.size ≤ 1000) (ha0 : -9223372036854775808 ≤ at_) (ha1 : at_ ≤ 9223372036854775807)
    (i : Nat) (hi : i + far < s.size) (hpi : pk at_ (s.size - far) = i) :
    Calls Tryd.prog 16 #[.string s, .int .i64 at_, .int .i64 far] w fun e w' => e = .returned (.string (swapped s i far)) ∧ Below w.heap.size w w' := by
  have HI := Lib.hid hpi
  clear hpi
  have hle : i ≤ s.size := by omega
  have hle1 : i + 1 ≤ s.size := by omega
  have hle2 : i + far ≤ s.size := by omega
  have hle3 : i + far + 1 ≤ s.size := by omega
  have hle4 : i + 1 ≤ i + far := by omega
  go_enter Tryd.func16, Tryd.ntmps16
  go_wp2_with (go_at_call 17; refine (picked_any _ _ _ ha0 ha1 (by omega)).mono ?_; rw [HI.out]; rintro e w' ⟨rfl, rfl⟩)
  go_quiet (fail)
  go_wp2
  go_ret
  exact ⟨rfl, blw_drewN _ _ _⟩
end Go.Proofs.YtccjcdecpgigpaaDoor.Num
