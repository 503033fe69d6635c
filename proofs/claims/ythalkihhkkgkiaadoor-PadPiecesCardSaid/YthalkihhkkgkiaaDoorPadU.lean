/- Plain: texts out of characters; what comes of digits that are keyed in whatever script. -/
import Derived.Test.YthalkihhkkgkiaaDoorPadP
import Derived.Laws.RangeAny
import Derived.Laws.Cover4
namespace Go.Proofs.YthalkihhkkgkiaaDoor.Pad
open Go Go.RowKit Go.Proofs.YthalkihhkkgkiaaDoor.Base
set_option linter.unusedVariables false
set_option linter.unusedSimpArgs false
set_option maxRecDepth 20000
theorem get_list (s : ByteArray) (i : Nat) (c : UInt8) (h : s.data.toList[i]? = some c) : s.get! i = c := by
  obtain ⟨d⟩ := s
  simp only [ByteArray.get!] 
  rw [Array.getElem?_toList] at h
  rw [getElem!_def, h]
theorem enc_list (n : Int) (hv : Utf8.valid n = true) : (Utf8.encode n).data.toList = (let c := n.toNat; if c < 128 then [UInt8.ofNat c] else if c < 2048 then [UInt8.ofNat (192 + c / 64), UInt8.ofNat (128 + c % 64)] else if c < 65536 then [UInt8.ofNat (224 + c / 4096), UInt8.ofNat (128 + c / 64 % 64), UInt8.ofNat (128 + c % 64)] else [UInt8.ofNat (240 + c / 262144), UInt8.ofNat (128 + c / 4096 % 64), UInt8.ofNat (128 + c / 64 % 64), UInt8.ofNat (128 + c % 64)]) := by
  unfold Utf8.encode
  rw [if_pos hv]
  simp only
  split
  · rfl
  · split
    · rfl
    · split <;> rfl
theorem valid_nat (n : Int) (hv : Utf8.valid n = true) : 0 ≤ n ∧ n.toNat ≤ 1114111 ∧ Utf8.valid (n.toNat : Int) = true := by
  have h : (0 ≤ n ∧ n < 55296) ∨ (57344 ≤ n ∧ n ≤ 1114111) := by
    unfold Utf8.valid at hv
    simpa using hv
  have h0 : 0 ≤ n := by omega
  refine ⟨h0, by omega, ?_⟩
  rw [Int.toNat_of_nonneg h0]
  exact hv
theorem tn (m : Nat) (h : m < 256) : (UInt8.ofNat m).toNat = m := by
  rw [UInt8.toNat_ofNat']; exact Nat.mod_eq_of_lt h
theorem dec_enc (s : ByteArray) (A B : List UInt8) (n : Int) (hv : Utf8.valid n = true) (hs : s.data.toList = A ++ (Utf8.encode n).data.toList ++ B) :
    Utf8.decode s A.length = (n.toNat, (Utf8.encode n).data.toList.length) := by
  have he := enc_list n hv
  obtain ⟨n0, n1, n2⟩ := valid_nat n hv
  rw [he] at hs ⊢
  simp only at hs ⊢
  have hsz : s.size = s.data.toList.length := by simp
  generalize n.toNat = c at *
  have at_ : ∀ (l : List UInt8) k x, s.data.toList = A ++ l ++ B → l[k]? = some x → s.get! (A.length + k) = x ∧ A.length + k < s.size := by
    intro l k x h hk
    have hlt : k < l.length := (List.getElem?_eq_some_iff.1 hk).1
    refine ⟨get_list s _ x ?_, by rw [hsz, h]; simp; omega⟩
    rw [h, List.append_assoc, List.getElem?_append_right (by omega), Nat.add_sub_cancel_left, List.getElem?_append_left hlt]
    exact hk
  by_cases h1 : c < 128
  · rw [if_pos h1] at hs ⊢
    obtain ⟨e0, _⟩ := at_ _ 0 _ hs rfl
    simp only [Utf8.decode, e0, tn c (by omega)]
    rw [if_pos h1]
    rfl
  · rw [if_neg h1] at hs ⊢
    by_cases h2 : c < 2048
    · rw [if_pos h2] at hs ⊢
      obtain ⟨e0, _⟩ := at_ _ 0 _ hs rfl
      obtain ⟨e1, l1⟩ := at_ _ 1 _ hs rfl
      simp only [Utf8.decode, e0, e1, tn (192 + c / 64) (by omega), tn (128 + c % 64) (by omega)]
      rw [if_neg (by omega), if_pos (by simp [l1]; omega), if_pos (by omega)]
      simp
      omega
    · rw [if_neg h2] at hs ⊢
      by_cases h3 : c < 65536
      · rw [if_pos h3] at hs ⊢
        obtain ⟨e0, _⟩ := at_ _ 0 _ hs rfl
        obtain ⟨e1, l1⟩ := at_ _ 1 _ hs rfl
        obtain ⟨e2, l2⟩ := at_ _ 2 _ hs rfl
        simp only [Utf8.decode, e0, e1, e2, tn (224 + c / 4096) (by omega), tn (128 + c / 64 % 64) (by omega), tn (128 + c % 64) (by omega)]
        have hc : (224 + c / 4096) % 16 * 4096 + (128 + c / 64 % 64) % 64 * 64 + (128 + c % 64) % 64 = c := by omega
        rw [hc, if_neg (by omega), if_neg (by simp; omega), if_pos (by simp [l1, l2]; omega), if_pos (by simp [n2]; omega)]
        rfl
      · rw [if_neg h3] at hs ⊢
        obtain ⟨e0, _⟩ := at_ _ 0 _ hs rfl
        obtain ⟨e1, l1⟩ := at_ _ 1 _ hs rfl
        obtain ⟨e2, l2⟩ := at_ _ 2 _ hs rfl
        obtain ⟨e3, l3⟩ := at_ _ 3 _ hs rfl
        simp only [Utf8.decode, e0, e1, e2, e3, tn (240 + c / 262144) (by omega), tn (128 + c / 4096 % 64) (by omega), tn (128 + c / 64 % 64) (by omega), tn (128 + c % 64) (by omega)]
        have hc : (240 + c / 262144) % 8 * 262144 + (128 + c / 4096 % 64) % 64 * 4096 + (128 + c / 64 % 64) % 64 * 64 + (128 + c % 64) % 64 = c := by omega
        rw [hc, if_neg (by omega), if_neg (by simp; omega), if_neg (by simp; omega), if_pos (by simp [l1, l2, l3]; omega), if_pos (by simp [n2]; omega)]
        rfl
theorem enc_pos (n : Int) : 1 ≤ (Utf8.encode n).data.toList.length := by
  unfold Utf8.encode
  simp only
  repeat' split
  all_goals simp
theorem runes_valid (s : ByteArray) : ∀ (zs : List Int) (A : List UInt8) (f : Nat), (∀ z ∈ zs, Utf8.valid z = true) → s.data.toList = A ++ zs.flatMap (fun z => (Utf8.encode z).data.toList) → s.size - A.length ≤ f → runesFrom s f A.length = zs
  | [], A, f, _, hs, hf => by
    have hl : s.size = A.length := by rw [← bytes_len, hs]; simp
    exact runes_end s f A.length (by omega)
  | z :: zs, A, f, hv, hs, hf => by
    have h1 := enc_pos z
    have hs2 : s.data.toList = A ++ (Utf8.encode z).data.toList ++ zs.flatMap (fun z => (Utf8.encode z).data.toList) := by rw [hs, List.flatMap_cons, List.append_assoc]
    have hl : s.size = A.length + (Utf8.encode z).data.toList.length + (zs.flatMap (fun z => (Utf8.encode z).data.toList)).length := by rw [← bytes_len, hs2]; simp only [List.length_append]
    have hd := dec_enc s A _ z (hv z List.mem_cons_self) hs2
    obtain ⟨f', hr, hf'⟩ := runes_step s f A.length (by omega) hf
    rw [hr, hd]
    rw [hd] at hf'
    simp only at hf' ⊢
    have h2 := runes_valid s zs (A ++ (Utf8.encode z).data.toList) f' (fun x hx => hv x (List.mem_cons_of_mem _ hx)) hs2 (by rw [List.length_append]; exact hf')
    rw [List.length_append] at h2
    rw [h2, Int.toNat_of_nonneg (valid_nat z (hv z List.mem_cons_self)).1]
theorem runesBytes_list (zs : List Int) : (runesBytes zs).data.toList = zs.flatMap (fun z => (Utf8.encode z).data.toList) := by
  have h : ∀ (zs : List Int) (s : ByteArray), (zs.foldl (fun r n => r ++ Utf8.encode n) s).data.toList = s.data.toList ++ zs.flatMap (fun z => (Utf8.encode z).data.toList) := by
    intro zs
    induction zs with
    | nil => intro s; simp
    | cons z zs ih => intro s; rw [List.foldl_cons, ih, bytes_append, List.flatMap_cons, List.append_assoc]
  unfold runesBytes
  rw [h]
  rfl
theorem runes_back (zs : List Int) (hv : ∀ z ∈ zs, Utf8.valid z = true) : runes (runesBytes zs) = zs := by
  unfold runes
  exact runes_valid _ zs [] _ hv (by rw [runesBytes_list]; rfl) (by simp)
theorem runesBytes_end (zs : List Int) : runesBytes zs ++ (⟨#[35]⟩ : ByteArray) = runesBytes (zs ++ [35]) := by
  apply bytes_ext
  rw [bytes_append, runesBytes_list, runesBytes_list, List.flatMap_append]
  rfl
def zone (z : Int) : Prop := z = 48 ∨ z = 1632 ∨ z = 1776 ∨ z = 2406 ∨ z = 2534 ∨ z = 65296
theorem script_zone (n : Int) : zone (scriptI n) := by
  unfold scriptI zone
  simp only
  repeat' split
  all_goals simp
theorem press_zone (d : List UInt8) (b : Bool) (z : Int) (c : UInt8) (hz : zone z) (hc : isDg c = true) (hl : d.length < 30) : pressP ⟨d, b⟩ (z + ((c.toNat : Int) - 48)) = (⟨d ++ [c], b⟩, none) ∧ Utf8.valid (z + ((c.toNat : Int) - 48)) = true := by
  unfold isDg at hc
  simp only [Bool.and_eq_true, decide_eq_true_eq] at hc
  unfold zone at hz
  have hv : valI (z + ((c.toNat : Int) - 48)) = (c.toNat : Int) - 48 := by
    unfold valI
    rcases hz with rfl | rfl | rfl | rfl | rfl | rfl
    all_goals
      (repeat (first | rw [if_pos (by unfold zin; omega)] | rw [if_neg (by unfold zin; omega)]))
      omega
  constructor
  · unfold pressP
    rw [if_neg (by omega), if_neg (by omega), if_neg (by omega), hv, if_neg (by simp only; omega)]
    have e : UInt8.ofNat (48 + ((c.toNat : Int) - 48).toNat) = c := by
      apply UInt8.toNat_inj.1
      rw [UInt8.toNat_ofNat']
      omega
    rw [e]
  · unfold Utf8.valid
    simp
    omega
def zl : List UInt8 → List Int → List Int
  | [], _ => []
  | c :: d, [] => (48 + ((c.toNat : Int) - 48)) :: zl d []
  | c :: d, n :: sc => (scriptI n + ((c.toNat : Int) - 48)) :: zl d sc
theorem zl_len : ∀ d sc, (zl d sc).length = d.length
  | [], _ => rfl
  | c :: d, [] => by simp [zl, zl_len d []]
  | c :: d, n :: sc => by simp [zl, zl_len d sc]
theorem zl_at : ∀ (d : List UInt8) (sc : List Int) (j : Nat) (c : UInt8), d[j]? = some c → (zl d sc)[j]? = some ((match sc[j]? with | some n => scriptI n | none => 48) + ((c.toNat : Int) - 48))
  | [], _, j, c, h => by simp at h
  | x :: d, [], 0, c, h => by simp at h; subst h; rfl
  | x :: d, n :: sc, 0, c, h => by simp at h; subst h; rfl
  | x :: d, [], j + 1, c, h => by
    have := zl_at d [] j c (by simpa using h)
    simpa [zl] using this
  | x :: d, n :: sc, j + 1, c, h => by
    have := zl_at d sc j c (by simpa using h)
    simpa [zl] using this
theorem zl_valid : ∀ (d : List UInt8) (sc : List Int), (∀ c ∈ d, isDg c = true) → ∀ z ∈ zl d sc, Utf8.valid z = true
  | [], _, _, z, hz => by cases hz
  | c :: d, [], h, z, hz => by
    rcases List.mem_cons.1 hz with rfl | hz
    · exact (press_zone [] false 48 c (.inl rfl) (h c List.mem_cons_self) (by simp)).2
    · exact zl_valid d [] (fun x hx => h x (List.mem_cons_of_mem _ hx)) z hz
  | c :: d, n :: sc, h, z, hz => by
    rcases List.mem_cons.1 hz with rfl | hz
    · exact (press_zone [] false _ c (script_zone n) (h c List.mem_cons_self) (by simp)).2
    · exact zl_valid d sc (fun x hx => h x (List.mem_cons_of_mem _ hx)) z hz
theorem keys_zl (b : Bool) (out : List En) : ∀ (l : List UInt8) (sc : List Int) (d : List UInt8), (∀ c ∈ l, isDg c = true) → d.length + l.length ≤ 30 → keysP (zl l sc) (⟨d, b⟩, out) = (⟨d ++ l, b⟩, out)
  | [], _, d, _, _ => by simp [keysP, zl]
  | c :: l, [], d, h, hl => by
    simp only [List.length_cons] at hl
    show keysP ((48 + ((c.toNat : Int) - 48)) :: zl l []) _ = _
    rw [keysP_cons, (press_zone d b 48 c (.inl rfl) (h c List.mem_cons_self) (by omega)).1]
    simp only
    rw [keys_zl b out l [] (d ++ [c]) (fun x hx => h x (List.mem_cons_of_mem _ hx)) (by simp; omega)]
    simp
  | c :: l, n :: sc, d, h, hl => by
    simp only [List.length_cons] at hl
    show keysP ((scriptI n + ((c.toNat : Int) - 48)) :: zl l sc) _ = _
    rw [keysP_cons, (press_zone d b _ c (script_zone n) (h c List.mem_cons_self) (by omega)).1]
    simp only
    rw [keys_zl b out l sc (d ++ [c]) (fun x hx => h x (List.mem_cons_of_mem _ hx)) (by simp; omega)]
    simp
theorem script_keys (d : List UInt8) (sc : List Int) (hd : ∀ c ∈ d, isDg c = true) (h0 : d ≠ []) (hl : d.length ≤ 30) : keysP (runes (runesBytes (zl d sc ++ [35]))) (⟨[], false⟩, []) = (⟨[], false⟩, [⟨d, 0⟩]) := by
  rw [runes_back _ (by
    intro z hz
    rcases List.mem_append.1 hz with h | h
    · exact zl_valid d sc hd z h
    · rw [List.mem_singleton.1 h]; rfl)]
  rw [keysP_append, keys_zl false [] d sc [] hd (by simpa using hl), List.nil_append, keysP_cons, press_end d h0]
  rfl
end Go.Proofs.YthalkihhkkgkiaaDoor.Pad
