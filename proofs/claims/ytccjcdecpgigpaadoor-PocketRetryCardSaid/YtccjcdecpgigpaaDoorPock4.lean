/- Pocket: a meter at which tokens are sold and keyed, step by step; the contract of pocketAt. -/
import Derived.Test.YtccjcdecpgigpaaDoorPock3
import Derived.Test.YtccjcdecpgigpaaDoorSold
import Derived.Test.YtccjcdecpgigpaaDoorSlots
import Derived.Test.YtccjcdecpgigpaaDoorTokQ
import Derived.Deep.RegionLaw
namespace Go.Proofs.YtccjcdecpgigpaaDoor.Pock
open Go Go.RowKit Go.Proofs.YtccjcdecpgigpaaDoor.Base Go.Proofs.YtccjcdecpgigpaaDoor.Met Go.Proofs.YtccjcdecpgigpaaDoor.Win Go.Proofs.YtccjcdecpgigpaaDoor.Cell Go.Proofs.YtccjcdecpgigpaaDoor.Orc Go.Proofs.YtccjcdecpgigpaaDoor.Tok
set_option linter.unusedVariables false
set_option linter.unusedSimpArgs false
set_option maxRecDepth 20000
/-- A token is sold to the meter, and keyed there. -/
def psOf (s : Mt × List Pr) (x : Tk) : List Pr := issL s.2 s.1.me s.1.rev (bodyI (Met.madeT x)) (Met.madeT x).tag
def tkOf (s : Mt × List Pr) (x : Tk) : Tk := soldT s.2 s.1.me s.1.rev x
def stepP (s : Mt × List Pr) (x : Tk) : Mt × List Pr := ((keyR s.1 (psOf s x) (tkOf s x)).1, psOf s x)
def pockS (me : Int) (l : List Tk) : Mt × List Pr := l.foldl stepP (beginM me, [])
theorem pockS_snoc (me : Int) (l : List Tk) (x : Tk) : pockS me (l ++ [x]) = stepP (pockS me l) x := by unfold pockS; rw [List.foldl_append]; rfl
structure PInv (me : Int) (k : Nat) (s : Mt × List Pr) : Prop where
  ok : s.1.ok
  may : mmay s.1 = true
  me : s.1.me = me
  kept : Kept s.2 k
theorem does_me (x : Mt) (t : Tk) (ad : Int) : (doesR x t ad).1.me = x.me := by
  unfold doesR
  split
  · rfl
  · split
    · split <;> rfl
    · split <;> rfl
theorem key_me (x : Mt) (ps : List Pr) (t : Tk) : (keyR x ps t).1.me = x.me := by
  unfold keyR
  split
  · rfl
  · split
    · rfl
    · split
      · rfl
      · split
        · show (soldM x _).me = x.me
          unfold soldM badM
          split
          · split <;> rfl
          · rfl
        · unfold takeR
          split
          · split
            · show (doesR x t 0).1.me = x.me
              exact does_me x t 0
            · exact does_me x t 0
          · rfl
theorem PInv.begin (me : Int) (h0 : 0 ≤ me) (h1 : me < 50) : PInv me 0 (beginM me, []) := by
  obtain ⟨g1, g2, g3⟩ := begin_good me h0 h1
  exact ⟨ok_of g1 g2 g3 (by show 0 < 18446744073709551616; omega), mmay_of g1 g2 g3, rfl, Kept.nil⟩
theorem PInv.lim {me : Int} {k : Nat} {s : Mt × List Pr} (h : PInv me k s) : (0 ≤ s.1.me ∧ s.1.me < 50) ∧ (0 ≤ s.1.rev ∧ s.1.rev ≤ 15) := by
  obtain ⟨⟨h1, h2, _⟩, _⟩ := Met.mmay_lim h.may
  exact ⟨h1, h2⟩
theorem PInv.iss {me : Int} {k : Nat} {s : Mt × List Pr} (h : PInv me k s) (hk : k < 500) (x : Tk) : Kept (psOf s x) (k + 1) := by
  obtain ⟨⟨m0, m1⟩, r0, r1⟩ := h.lim
  obtain ⟨hb64, ⟨hb0, hb1⟩, ht0, ht1⟩ := made_lim x
  exact h.kept.step hk (by unfold wok; exact decide_eq_true ⟨⟨m0, m1⟩, ⟨r0, r1⟩, hb0, hb1⟩) ⟨by omega, by omega⟩ ⟨by omega, by omega⟩ hb64 ht0 ht1
theorem PInv.step {me : Int} {k : Nat} {s : Mt × List Pr} (h : PInv me k s) (hk : k < 500) (x : Tk) : PInv me (k + 1) (stepP s x) := by
  obtain ⟨k1, k2⟩ := key_keep s.1 (psOf s x) (tkOf s x) h.ok h.may
  exact ⟨k1, k2, (key_me _ _ _).trans h.me, h.iss hk x⟩
theorem PInv.all {me : Int} (h0 : 0 ≤ me) (h1 : me < 50) (l : List Tk) (hl : l.length ≤ 400) : PInv me l.length (pockS me l) := by
  have key : ∀ n, ∀ l : List Tk, l.length = n → n ≤ 400 → PInv me n (pockS me l) := by
    intro n
    induction n with
    | zero => intro l hl _; rw [List.length_eq_zero_iff.1 hl]; exact PInv.begin me h0 h1
    | succ n ih =>
      intro l hl hn
      have hne : l ≠ [] := by intro h; rw [h] at hl; simp at hl
      rw [← List.dropLast_concat_getLast hne, pockS_snoc]
      exact (ih _ (by simp [hl]) (by omega)).step (by omega) _
  exact key _ l rfl hl
theorem moved_len (c : List UInt32) (s : Nat) (old next : Mt) : (movedW c s old next).length = 0 ∨ (movedW c s old next).length = 7 := by
  unfold movedW
  split
  · exact .inl rfl
  · rw [storeW_len]; exact .inr rfl
theorem moved_in {c : List UInt32} {s : Nat} {old next : Mt} (hc : c.length = 12) (hs : s < 2) : ∀ x ∈ movedW c s old next, x.at_ < c.length := by
  unfold movedW
  split
  · intro x hx; simp at hx
  · intro x hx
    have := storeW_in 5 s (markN c 5 s) hs (wordsL next) rfl x hx
    omega
/-- Behind all writes the words hold the next meter. -/
theorem moved_pk {c : List UInt32} {s : Nat} {old next : Mt} (hk : Pk c old) (hs : newerN (markN c 5 0) (markN c 5 1) = some s) (ok : next.ok) (hm : mmay next = true) : Pk (applyL c (movedW c s old next)) next := by
  unfold movedW
  cases he : eqM old next with
  | true =>
    rw [if_pos rfl]
    rw [(eqM_iff old next).1 he] at hk
    exact hk
  | false =>
    rw [if_neg (by simp)]
    exact ⟨store_all hk.hold hs rfl, ok, hm⟩
/-- Behind some of them, not all, the old one. -/
theorem cut_pk {c : List UInt32} {s k : Nat} {old next : Mt} (hk : Pk c old) (hs : newerN (markN c 5 0) (markN c 5 1) = some s) (hl : k < (movedW c s old next).length) : Pk (applyL c ((movedW c s old next).take k)) old := by
  unfold movedW at *
  cases he : eqM old next with
  | true => rw [he, if_pos rfl] at hl; simp at hl
  | false =>
    rw [he, if_neg (by simp), storeW_len, words_len] at hl
    rw [if_neg (by simp)]
    exact ⟨(store_cut hk.hold hs rfl hl).1, hk.ok, hk.may⟩
theorem Pk.newer {c : List UInt32} {m : Mt} (h : Pk c m) : ∃ s, newerN (markN c 5 0) (markN c 5 1) = some s := ⟨_, h.hold.slot.choose_spec.1⟩
theorem make_pk (me : Int) (h0 : 0 ≤ me) (h1 : me < 50) : Pk (makeL me) (beginM me) := by
  have h := PInv.begin me h0 h1
  refine ⟨⟨rfl, rfl, 0, ?_, ?_⟩, h.ok, h.may⟩
  · have e0 : markN (makeL me) 5 0 = 1 := rfl
    have e1 : markN (makeL me) 5 1 = 0 := rfl
    rw [e0, e1]; rfl
  · intro i hi
    match i, hi with
    | 0, _ => rfl
    | 1, _ => rfl
    | 2, _ => rfl
    | 3, _ => rfl
    | 4, _ => rfl
theorem own_below {B0 : Nat} {e : TypeId} {k : Nat} {u : Value} {n : Nat} {xs : List Value} {w : World} (h : w.ownsRow B0 e k u n xs) {p : Nat} (hp : p < B0) (j : Nat) (v : Value) : (w.setCell ⟨p, j, none⟩ v).ownsRow B0 e k u n xs := ownsRow_setCell_below (a := ⟨p, j, none⟩) h hp v
end Go.Proofs.YtccjcdecpgigpaaDoor.Pock
