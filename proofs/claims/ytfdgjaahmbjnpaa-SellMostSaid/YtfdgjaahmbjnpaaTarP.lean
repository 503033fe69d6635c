/- Tariffs in plain words. -/
import Derived.Test.YtfdgjaahmbjnpaaBase
namespace Go.Proofs.Ytfdgjaahmbjnpaa.Tar
set_option linter.unusedVariables false
set_option linter.unusedSimpArgs false
set_option maxRecDepth 20000
/-! ### tariffs, in plain words -/
structure Stp where
  upto : Int
  price : Int
structure Ln where
  units : Int
  price : Int
  cost : Int
/-- A tariff that is right, from lo on. -/
def TG : Int → List Stp → Prop
  | lo, [] => lo = 10000000
  | lo, s :: t => lo < s.upto ∧ s.upto ≤ 10000000 ∧ 1 ≤ s.price ∧ s.price ≤ 100000 ∧ TG s.upto t
theorem TG.le : ∀ {t : List Stp} {lo : Int}, TG lo t → lo ≤ 10000000
  | [], lo, h => by unfold TG at h; omega
  | s :: t, lo, h => by obtain ⟨a, b, _⟩ := h; omega
/-- What so many units cost from nought on. -/
def cum : Int → List Stp → Int → Int
  | _, [], _ => 0
  | lo, s :: t, x => (min x s.upto - min x lo) * s.price + cum s.upto t x
theorem cum_low : ∀ (t : List Stp) (lo x : Int), TG lo t → x ≤ lo → cum lo t x = 0
  | [], _, _, _, _ => rfl
  | s :: t, lo, x, h, hx => by
    obtain ⟨a, _, _, _, h'⟩ := h
    show (min x s.upto - min x lo) * s.price + cum s.upto t x = 0
    rw [cum_low t s.upto x h' (by omega), show min x s.upto - min x lo = 0 by omega]
    simp
def billL : List Stp → Int → Int → List Ln
  | [], _, _ => []
  | s :: t, a, u => if s.upto ≤ a then billL t a u else if u = 0 then [] else ⟨min (s.upto - a) u, s.price, min (s.upto - a) u * s.price⟩ :: billL t s.upto (u - min (s.upto - a) u)
def costL (l : List Ln) : Int := (l.map (·.cost)).sum
def unitL (l : List Ln) : Int := (l.map (·.units)).sum
theorem bill_nil : ∀ (t : List Stp) (a : Int), billL t a 0 = []
  | [], _ => rfl
  | s :: t, a => by
    unfold billL
    split
    · exact bill_nil t a
    · rfl
theorem bill_len : ∀ (t : List Stp) (a u : Int), (billL t a u).length ≤ t.length
  | [], _, _ => by simp [billL]
  | s :: t, a, u => by
    unfold billL
    split
    · have := bill_len t a u
      simp; omega
    · split
      · simp
      · have := bill_len t s.upto (u - min (s.upto - a) u)
        simp; omega
theorem bill_cost : ∀ (t : List Stp) (lo a u : Int), TG lo t → lo ≤ a → 0 ≤ u → costL (billL t a u) = cum lo t (a + u) - cum lo t a
  | [], _, _, _, _, _, _ => rfl
  | s :: t, lo, a, u, h, ha, hu => by
    obtain ⟨h1, h2, h3, h4, h'⟩ := h
    show costL (billL (s :: t) a u) = ((min (a + u) s.upto - min (a + u) lo) * s.price + cum s.upto t (a + u)) - ((min a s.upto - min a lo) * s.price + cum s.upto t a)
    unfold billL
    by_cases c1 : s.upto ≤ a
    · rw [if_pos c1, bill_cost t s.upto a u h' c1 hu, show min (a + u) s.upto - min (a + u) lo = min a s.upto - min a lo by omega]
      omega
    · rw [if_neg c1]
      by_cases c2 : u = 0
      · subst c2
        rw [if_pos rfl]
        simp [costL]
      · rw [if_neg c2]
        show min (s.upto - a) u * s.price + costL (billL t s.upto (u - min (s.upto - a) u)) = _
        rw [bill_cost t s.upto s.upto _ h' (Int.le_refl _) (by omega), cum_low t s.upto s.upto h' (Int.le_refl _), cum_low t s.upto a h' (by omega)]
        have e1 : (min (a + u) s.upto - min (a + u) lo) = min (s.upto - a) u + (min a s.upto - min a lo) := by omega
        rw [e1, Int.add_mul]
        by_cases c3 : s.upto - a ≤ u
        · rw [show s.upto + (u - min (s.upto - a) u) = a + u by omega]
          omega
        · rw [show s.upto + (u - min (s.upto - a) u) = s.upto by omega, cum_low t s.upto s.upto h' (Int.le_refl _), cum_low t s.upto (a + u) h' (by omega)]
          omega
theorem bill_units : ∀ (t : List Stp) (lo a u : Int), TG lo t → lo ≤ a → 0 ≤ u → a + u ≤ 10000000 → unitL (billL t a u) = u
  | [], lo, a, u, h, ha, hu, hx => by
    unfold TG at h
    show (0 : Int) = u
    omega
  | s :: t, lo, a, u, h, ha, hu, hx => by
    obtain ⟨h1, h2, h3, h4, h'⟩ := h
    unfold billL
    by_cases c1 : s.upto ≤ a
    · rw [if_pos c1]
      exact bill_units t s.upto a u h' c1 hu hx
    · rw [if_neg c1]
      by_cases c2 : u = 0
      · subst c2
        rw [if_pos rfl]
        rfl
      · rw [if_neg c2]
        show min (s.upto - a) u + unitL (billL t s.upto (u - min (s.upto - a) u)) = _
        rw [bill_units t s.upto s.upto _ h' (Int.le_refl _) (by omega) (by omega)]
        omega
/-- Each line is right, and none is empty. -/
theorem bill_lines : ∀ (t : List Stp) (lo a u : Int), TG lo t → 0 ≤ u → ∀ x ∈ billL t a u, 1 ≤ x.units ∧ x.units ≤ u ∧ x.cost = x.units * x.price ∧ 1 ≤ x.price ∧ x.price ≤ 100000
  | [], _, _, _, _, _ => by simp [billL]
  | s :: t, lo, a, u, h, hu => by
    obtain ⟨h1, h2, h3, h4, h'⟩ := h
    unfold billL
    by_cases c1 : s.upto ≤ a
    · rw [if_pos c1]
      exact bill_lines t s.upto a u h' hu
    · rw [if_neg c1]
      by_cases c2 : u = 0
      · rw [if_pos c2]
        simp
      · rw [if_neg c2]
        intro x hx
        rcases List.mem_cons.1 hx with rfl | hx
        · exact ⟨by show 1 ≤ min (s.upto - a) u; omega, by show min (s.upto - a) u ≤ u; omega, rfl, h3, h4⟩
        · obtain ⟨q1, q2, q3⟩ := bill_lines t s.upto s.upto _ h' (by omega) x hx
          exact ⟨q1, by omega, q3⟩
/-- The price of the unit behind x. -/
def priceAt : List Stp → Int → Int
  | [], _ => 0
  | s :: t, x => if x < s.upto then s.price else priceAt t x
theorem cum_step : ∀ (t : List Stp) (lo x : Int), TG lo t → lo ≤ x → x < 10000000 → cum lo t (x + 1) - cum lo t x = priceAt t x
  | [], lo, x, h, ha, hx => by unfold TG at h; omega
  | s :: t, lo, x, h, ha, hx => by
    obtain ⟨h1, h2, h3, h4, h'⟩ := h
    show ((min (x + 1) s.upto - min (x + 1) lo) * s.price + cum s.upto t (x + 1)) - ((min x s.upto - min x lo) * s.price + cum s.upto t x) = if x < s.upto then s.price else priceAt t x
    by_cases c : x < s.upto
    · rw [if_pos c, cum_low t s.upto (x + 1) h' (by omega), cum_low t s.upto x h' (by omega), show min (x + 1) s.upto - min (x + 1) lo = (min x s.upto - min x lo) + 1 by omega, Int.add_mul]
      omega
    · rw [if_neg c, ← cum_step t s.upto x h' (by omega) hx, show min (x + 1) s.upto - min (x + 1) lo = (min x s.upto - min x lo) by omega]
      omega
theorem priceAt_pos : ∀ (t : List Stp) (lo x : Int), TG lo t → x < 10000000 → lo ≤ x → 1 ≤ priceAt t x ∧ priceAt t x ≤ 100000
  | [], lo, x, h, hx, ha => by unfold TG at h; omega
  | s :: t, lo, x, h, hx, ha => by
    obtain ⟨h1, h2, h3, h4, h'⟩ := h
    unfold priceAt
    by_cases c : x < s.upto
    · rw [if_pos c]; exact ⟨h3, h4⟩
    · rw [if_neg c]; exact priceAt_pos t s.upto x h' hx (by omega)
theorem cum_mono (t : List Stp) (lo x : Int) (h : TG lo t) (hx : lo ≤ x) : ∀ n : Nat, x + n ≤ 10000000 → (n : Int) ≤ cum lo t (x + n) - cum lo t x ∧ cum lo t (x + n) - cum lo t x ≤ 100000 * n
  | 0, _ => by simp
  | n + 1, hn => by
    have h1 := cum_mono t lo x h hx n (by omega)
    have h2 := cum_step t lo (x + n) h (by omega) (by omega)
    have h3 := priceAt_pos t lo (x + n) h (by omega) (by omega)
    rw [show x + ((n + 1 : Nat) : Int) = x + n + 1 by omega]
    omega
/-- The most units for so much money. -/
def mostL (money : Int) : List Stp → Int → Int → Int → Int × Int
  | [], _, u, p => (u, p)
  | s :: t, a, u, p =>
    if s.upto ≤ a then mostL money t a u p
    else if min (min (s.upto - a) ((money - p) / s.price)) (2097151 - u) < s.upto - a then (u + min (min (s.upto - a) ((money - p) / s.price)) (2097151 - u), p + min (min (s.upto - a) ((money - p) / s.price)) (2097151 - u) * s.price)
    else mostL money t s.upto (u + min (min (s.upto - a) ((money - p) / s.price)) (2097151 - u)) (p + min (min (s.upto - a) ((money - p) / s.price)) (2097151 - u) * s.price)
theorem most_law (money : Int) : ∀ (t : List Stp) (lo a u p : Int), TG lo t → lo ≤ a → a ≤ 10000000 → 0 ≤ p → p ≤ money → 0 ≤ u → u ≤ 2097151 → ∀ r, r = mostL money t a u p →
    u ≤ r.1 ∧ r.1 ≤ 2097151 ∧ a + (r.1 - u) ≤ 10000000 ∧ p ≤ r.2 ∧ r.2 ≤ money ∧ r.2 - p = cum lo t (a + (r.1 - u)) - cum lo t a ∧
    (r.1 = 2097151 ∨ a + (r.1 - u) = 10000000 ∨ money < p + (cum lo t (a + (r.1 - u) + 1) - cum lo t a))
  | [], lo, a, u, p, h, ha, ham, hp, hpm, hu, hum, r, hr => by
    subst hr
    unfold TG at h
    simp [mostL, cum]
    omega
  | s :: t, lo, a, u, p, h, ha, ham, hp, hpm, hu, hum, r, hr => by
    obtain ⟨h1, h2, h3, h4, h'⟩ := h
    have hc : ∀ x, cum lo (s :: t) x = (min x s.upto - min x lo) * s.price + cum s.upto t x := fun x => rfl
    unfold mostL at hr
    by_cases c1 : s.upto ≤ a
    · rw [if_pos c1] at hr
      have ih := most_law money t s.upto a u p h' c1 ham hp hpm hu hum r hr
      obtain ⟨i1, i2, i3, i4, i5, i6, i7⟩ := ih
      rw [hc, hc, hc, show min (a + (r.1 - u)) s.upto - min (a + (r.1 - u)) lo = min a s.upto - min a lo by omega, show min (a + (r.1 - u) + 1) s.upto - min (a + (r.1 - u) + 1) lo = min a s.upto - min a lo by omega]
      refine ⟨i1, i2, i3, i4, i5, by omega, ?_⟩
      rcases i7 with i7 | i7 | i7
      · exact .inl i7
      · exact .inr (.inl i7)
      · exact .inr (.inr (by omega))
    · rw [if_neg c1] at hr
      obtain ⟨q, hq⟩ : ∃ q, q = (money - p) / s.price := ⟨_, rfl⟩
      have q0 : 0 ≤ q := by rw [hq]; exact Int.ediv_nonneg (by omega) (by omega)
      have q1 : q * s.price ≤ money - p := by rw [hq]; exact Int.ediv_mul_le _ (by omega)
      have q2 : money - p < q * s.price + s.price := by
        have := Int.lt_ediv_add_one_mul_self (money - p) (show 0 < s.price by omega)
        rw [← hq, Int.add_mul, Int.one_mul] at this
        exact this
      rw [← hq] at hr
      obtain ⟨n, hn⟩ : ∃ n, n = min (min (s.upto - a) q) (2097151 - u) := ⟨_, rfl⟩
      rw [← hn] at hr
      have n0 : 0 ≤ n := by omega
      have n1 : n * s.price ≤ q * s.price := Int.mul_le_mul_of_nonneg_right (by omega) (by omega)
      have n2 : 0 ≤ n * s.price := Int.mul_nonneg n0 (by omega)
      have low := fun x hx => cum_low t s.upto x h' hx
      by_cases c2 : n < s.upto - a
      · rw [if_pos c2] at hr
        subst hr
        simp only
        rw [hc, hc, hc, show a + (u + n - u) = a + n by omega, low a (by omega), low (a + n) (by omega), low (a + n + 1) (by omega), show min (a + n) s.upto - min (a + n) lo = n + (min a s.upto - min a lo) by omega, show min (a + n + 1) s.upto - min (a + n + 1) lo = n + (1 + (min a s.upto - min a lo)) by omega, Int.add_mul, Int.add_mul, Int.add_mul]
        refine ⟨by omega, by omega, by omega, by omega, by omega, by omega, ?_⟩
        by_cases c3 : u + n = 2097151
        · exact .inl c3
        · refine .inr (.inr ?_)
          have : n = q := by omega
          rw [this] at *
          omega
      · rw [if_neg c2] at hr
        have hn' : n = s.upto - a := by omega
        have ih := most_law money t s.upto s.upto (u + n) (p + n * s.price) h' (Int.le_refl _) h2 (by omega) (by omega) (by omega) (by omega) r hr
        obtain ⟨i1, i2, i3, i4, i5, i6, i7⟩ := ih
        have e : s.upto + (r.1 - (u + n)) = a + (r.1 - u) := by omega
        rw [e] at i3 i6 i7
        rw [low s.upto (Int.le_refl _)] at i6 i7
        rw [hc, hc, hc, low a (by omega), show min (a + (r.1 - u)) s.upto - min (a + (r.1 - u)) lo = n + (min a s.upto - min a lo) by omega, show min (a + (r.1 - u) + 1) s.upto - min (a + (r.1 - u) + 1) lo = n + (min a s.upto - min a lo) by omega, Int.add_mul]
        refine ⟨by omega, i2, i3, by omega, i5, by omega, ?_⟩
        rcases i7 with i7 | i7 | i7
        · exact .inl i7
        · exact .inr (.inl i7)
        · exact .inr (.inr (by omega))
end Go.Proofs.Ytfdgjaahmbjnpaa.Tar
