/- Plain: what comes of digits that are keyed. -/
import Derived.Test.YthalkihhkkgkiaaDoorPad3
namespace Go.Proofs.YthalkihhkkgkiaaDoor.Pad
open Go.RowKit Go.Proofs.YthalkihhkkgkiaaDoor.Base
set_option linter.unusedVariables false
set_option linter.unusedSimpArgs false
set_option maxRecDepth 20000
theorem runes_ascii (l : List UInt8) (h : ∀ c ∈ l, c.toNat < 128) : ∀ f pos, l.length - pos ≤ f → runesFrom (strOf l) f pos = (l.drop pos).map fun c => (c.toNat : Int)
  | 0, pos, hf => by
    rw [List.drop_of_length_le (by omega)]
    rfl
  | f + 1, pos, hf => by
    show (if pos < (strOf l).size then _ else _) = _
    rw [strOf_size]
    by_cases hp : pos < l.length
    · rw [if_pos hp]
      have hp' : pos < (strOf l).size := by rw [strOf_size]; exact hp
      have hb := bytes_at (strOf l) pos hp'
      rw [strOf_data, List.getElem?_eq_getElem hp] at hb
      have hc : (strOf l)[pos]'hp' = l[pos] := (Option.some.inj hb).symm
      have hlt : ((strOf l)[pos]'hp').toNat < 128 := by rw [hc]; exact h _ (List.getElem_mem hp)
      rw [decode_ascii (strOf l) pos hp' hlt, hc]
      rw [List.drop_eq_getElem_cons hp, List.map_cons, runes_ascii l h f (pos + 1) (by omega)]
      rfl
    · rw [if_neg hp, List.drop_of_length_le (by omega)]
      rfl
theorem runes_str (l : List UInt8) (h : ∀ c ∈ l, c.toNat < 128) : runes (strOf l) = l.map fun c => (c.toNat : Int) := by
  unfold runes
  rw [runes_ascii l h _ 0 (by rw [strOf_size]; omega), List.drop_zero]
theorem press_digit (d : List UInt8) (b : Bool) (c : UInt8) (hc : isDg c = true) (hl : d.length < 30) : pressP ⟨d, b⟩ (c.toNat : Int) = (⟨d ++ [c], b⟩, none) := by
  unfold isDg at hc
  simp only [Bool.and_eq_true, decide_eq_true_eq] at hc
  have hv : valI (c.toNat : Int) = (c.toNat : Int) - 48 := by
    unfold valI
    rw [if_pos (show zin (c.toNat : Int) 48 by unfold zin; omega)]
  unfold pressP
  rw [if_neg (by omega), if_neg (by omega), if_neg (by omega), hv, if_neg (by simp only; omega)]
  have e : UInt8.ofNat (48 + ((c.toNat : Int) - 48).toNat) = c := by
    apply UInt8.toNat_inj.1
    rw [UInt8.toNat_ofNat']
    omega
  rw [e]
theorem keys_digits (b : Bool) (out : List En) : ∀ (l d : List UInt8), (∀ c ∈ l, isDg c = true) → d.length + l.length ≤ 30 → keysP (l.map fun c => (c.toNat : Int)) (⟨d, b⟩, out) = (⟨d ++ l, b⟩, out)
  | [], d, _, _ => by simp [keysP]
  | c :: l, d, h, hl => by
    simp only [List.length_cons] at hl
    rw [List.map_cons, keysP_cons, press_digit d b c (h c List.mem_cons_self) (by omega)]
    simp only
    rw [keys_digits b out l (d ++ [c]) (fun x hx => h x (List.mem_cons_of_mem _ hx)) (by simp; omega)]
    simp
theorem keysP_append (rs qs : List Int) (x : Pd × List En) : keysP (rs ++ qs) x = keysP qs (keysP rs x) := by unfold keysP; rw [List.foldl_append]
theorem press_end (d : List UInt8) (h : d ≠ []) : pressP ⟨d, false⟩ 35 = (⟨[], false⟩, some ⟨d, 0⟩) := by
  unfold pressP
  rw [if_neg (by omega), if_neg (by omega), if_pos rfl, if_neg (by simp), if_neg h]
/-- Digits and an end are one entry. -/
theorem plain_keys (d : List UInt8) (hd : ∀ c ∈ d, isDg c = true) (h0 : d ≠ []) (hl : d.length ≤ 30) : keysP (runes (strOf (d ++ [35]))) (⟨[], false⟩, []) = (⟨[], false⟩, [⟨d, 0⟩]) := by
  rw [runes_str _ (by
    intro c hc
    rcases List.mem_append.1 hc with h | h
    · have := hd c h
      unfold isDg at this
      simp only [Bool.and_eq_true, decide_eq_true_eq] at this
      omega
    · rw [List.mem_singleton.1 h]; decide)]
  rw [List.map_append, keysP_append, keys_digits false [] d [] hd (by simpa using hl), List.nil_append]
  show keysP [35] (⟨d, false⟩, []) = _
  rw [keysP_cons, press_end d h0]
  rfl
end Go.Proofs.YthalkihhkkgkiaaDoor.Pad
