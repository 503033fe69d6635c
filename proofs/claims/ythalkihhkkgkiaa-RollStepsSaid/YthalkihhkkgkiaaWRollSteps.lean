/- The walk of RollSteps. -/
import Derived.Test.YthalkihhkkgkiaaOpenGn
namespace Go.Proofs.Ythalkihhkkgkiaa.RollSteps
open Go.RowKit Go.Proofs.Ythalkihhkkgkiaa.Base Go.Proofs.Ythalkihhkkgkiaa.Acc
set_option linter.unusedVariables false
set_option linter.unusedSimpArgs false
set_option maxRecDepth 20000
theorem roll_roll (a : Ac) (f t : Int) (h1 : a.mo ≤ f) (h2 : f ≤ t) : rollA (rollA a f) t = rollA a t := by
  unfold rollA
  simp only
  congr 1
  by_cases e : t = f
  · subst e
    simp
  · rw [if_neg e, if_neg (by omega)]
theorem age_age (m n : Nat) (ds : List Debt.Db) : Debt.ageL n (Debt.ageL m ds) = Debt.ageL (m + n) ds := by
  unfold Debt.ageL
  rw [List.map_map]
  exact List.map_congr_left fun d _ => (Debt.ageN_add d m n).symm
theorem age_len (m : Nat) (ds : List Debt.Db) : (Debt.ageL m ds).length = ds.length := by simp [Debt.ageL]
theorem age_ok (m : Nat) (ds : List Debt.Db) (h : ∀ x ∈ ds, x.ok) : ∀ x ∈ Debt.ageL m ds, x.ok := by
  intro x hx
  obtain ⟨y, hy, rfl⟩ := List.mem_map.1 hx
  exact Debt.ageN_ok m y (h y hy)
theorem roll_ok (a : Ac) (m : Int) (ha : a.ok) (h1 : a.mo ≤ m) (h2 : m ≤ 2399) : (rollA a m).ok := by
  obtain ⟨q1, q2, q3, q4, q5, q6, q7⟩ := ha
  unfold rollA Ac.ok
  simp only
  split <;> omega
theorem roll_call (a : Ac) (m : Int) (ds : List Debt.Db) (A : Option Addr) (n q : Nat) (w : World) (hl : n = ds.length) (hr : RdE 2 Debt.Db.enc w A ds) (hn : ds.length ≤ 8) (hk : ∀ x ∈ ds, x.ok) (hA : A = none → ds = [] ∧ q = 0) (ha : a.ok) (m0 : a.mo ≤ m) (m1 : m ≤ 2399) (b : Ac) (hb : b = rollA a m) (es : List Debt.Db) (he : es = Debt.ageL (m - a.mo).toNat ds) :
    Calls Try.prog 23 #[.agg #[.int .i64 a.me, .int .i64 a.rev, .int .i64 a.nx, .int .i64 a.mo, .int .i64 a.bo, .int .i64 a.fr, .slice A n q], .int .i64 m] w fun e w' => ∃ D dq, e = .returned (.tuple #[.agg #[.int .i64 b.me, .int .i64 b.rev, .int .i64 b.nx, .int .i64 b.mo, .int .i64 b.bo, .int .i64 b.fr, .slice D es.length dq], .int .i64 0]) ∧ Debt.OwDb w.heap.size w' D dq es ∧ Below w.heap.size w w' := by
  subst hb he hl
  exact Roll_any a ds A q m w hr hn hk hA ha m0 m1
set_option maxHeartbeats 4000000 in
theorem walk (x : Gn) (xs : List Value) (one two : Int) (w : World) (hx : ∃ L d, xs = gnv x L x.ds.length d ∧ RdE 2 Debt.Ow.enc w L x.ds ∧ x.ok) (wo : (Lit.int .i64 one).wf = true) (wt : (Lit.int .i64 two).wf = true) :
    Calls Try.prog 10 #[.agg xs.toArray, .int .i64 one, .int .i64 two] w fun e w' => e = .returned (.bool true) ∧ Below w.heap.size w w' := by
  obtain ⟨L, d, rfl, hl, hx⟩ := hx
  obtain ⟨o0, o1⟩ := i64_bound wo
  obtain ⟨t0, t1⟩ := i64_bound wt
  have HG := Lib.hid (fun W hW => gone_any x L d W hW hx)
  have HL := Lib.hid hl
  have hao := gone_ok x
  have hk := Debt.owingL_ok x.ds 1000000000 (by omega) (by omega)
  have hn := Debt.owingL_len x.ds 1000000000
  clear hl hx wo wt
  generalize goneA x = a at *
  generalize Debt.owingL x.ds 1000000000 = ds at *
  unfold gnv
  generalize x.ds.length = ol at *
  have ha3 : 0 ≤ a.mo ∧ a.mo ≤ 2399 := hao.2.2.2.1
  obtain ⟨ha0, ha1⟩ := ha3
  have hp1 := pk_bound one (2399 - a.mo + 1) (by omega)
  obtain ⟨f, hf⟩ : ∃ f, f = a.mo + pk one (2399 - a.mo + 1) := ⟨_, rfl⟩
  have hp2 := pk_bound two (2399 - f + 1) (by omega)
  obtain ⟨z, hz⟩ : ∃ z, z = f + pk two (2399 - f + 1) := ⟨_, rfl⟩
  have hf0 : a.mo ≤ f := by omega
  have hf1 : f ≤ 2399 := by omega
  have hz0 : f ≤ z := by omega
  have hz1 : z ≤ 2399 := by omega
  have HF := Lib.hid hf.symm
  have HZ := Lib.hid hz.symm
  obtain ⟨b, hb⟩ : ∃ b, b = rollA a f := ⟨_, rfl⟩
  obtain ⟨c, hc⟩ : ∃ c, c = rollA a z := ⟨_, rfl⟩
  obtain ⟨e1, he1⟩ : ∃ e, e = Debt.ageL (f - a.mo).toNat ds := ⟨_, rfl⟩
  obtain ⟨e2, he2⟩ : ∃ e, e = Debt.ageL (z - a.mo).toNat ds := ⟨_, rfl⟩
  have hbm : b.mo = f := by rw [hb]; rfl
  have hc2 : c = rollA b z := by rw [hc, hb, roll_roll a f z hf0 hz0]
  have he3 : e2 = Debt.ageL (z - b.mo).toNat e1 := by
    rw [he2, he1, hbm, age_age, show (f - a.mo).toNat + (z - f).toNat = (z - a.mo).toNat by omega]
  have hcm : c.mo = z := by rw [hc]; rfl
  have hcb : z = a.mo ∨ c.bo = 0 := by
    by_cases e : z = a.mo
    · exact .inl e
    · right
      rw [hc]
      unfold rollA
      exact if_neg e
  have hk1 : ∀ x ∈ e1, x.ok := by rw [he1]; exact age_ok _ _ hk
  have hn1 : e1.length ≤ 8 := by rw [he1, age_len]; exact hn
  have hbo : b.ok := by rw [hb]; exact roll_ok a f hao hf0 hf1
  have R1 := Lib.hid (fun A n q W hq hr hA => roll_call a f ds A n q W hq hr hn hk hA hao hf0 hf1 b hb e1 he1)
  have R2 := Lib.hid (fun A n q W hq hr hA => roll_call b z e1 A n q W hq hr hn1 hk1 hA hbo (by rw [hbm]; exact hz0) hz1 c hc2 e2 he3)
  have R3 := Lib.hid (fun A n q W hq hr hA => roll_call a z ds A n q W hq hr hn hk hA hao (by omega) hz1 c hc e2 he2)
  have HCM := Lib.hid hcm
  have HCB := Lib.hid hcb
  clear hb hc hc2 he1 he2 he3 hcm hcb hk hk1 hbo hao hf hz hbm
  obtain ⟨a1, a2, a3, am, a5, a6⟩ := a
  obtain ⟨b1, b2, b3, bm, b5, b6⟩ := b
  obtain ⟨c1, c2, c3, cm, c5, c6⟩ := c
  simp only at *
  go_enter Try.func10, Try.ntmps10
  go_wp2_with (fail)
  go_at_call 22
  refine (HG.out _ (HL.out.below (blw_alloc (Below.refl _ _) _))).mono ?_
  rintro e w1 ⟨D, dq, rfl, ho, hb⟩
  have HB1 := Lib.hid (below_then' (blw_alloc (Below.refl _ _) _) hb)
  have HD1 := Lib.hid ho.read
  have HN := Lib.hid ho.nil
  clear ho hb
  go_wp2_with (fail)
  go_quiet ((go_at_call 11; exact quiet_same (picked_any _ _ _ (by omega) (by omega) (by omega))))
  rw [HF.out]
  have hs1 : ((w1.alloc (.cells #[.int .i64 a1, .int .i64 a2, .int .i64 a3, .int .i64 am, .int .i64 a5, .int .i64 a6, .slice D ds.length dq] 61)).drewN nq).heap.size = w1.heap.size + 1 := World.size_alloc _ _
  have CA := Lib.hid ((Cs.new rfl : Cs (w1.alloc (.cells #[.int .i64 a1, .int .i64 a2, .int .i64 a3, .int .i64 am, .int .i64 a5, .int .i64 a6, .slice D ds.length dq] 61)) w1.heap.size [.int .i64 a1, .int .i64 a2, .int .i64 a3, .int .i64 am, .int .i64 a5, .int .i64 a6, .slice D ds.length dq]).drewN nq)
  have HB2 := Lib.hid (blw_step (blw_alloc HB1.out (.cells #[.int .i64 a1, .int .i64 a2, .int .i64 a3, .int .i64 am, .int .i64 a5, .int .i64 a6, .slice D ds.length dq] 61)) nq)
  have HD2 := Lib.hid (HD1.out.below (blw_step (blw_alloc (Below.refl _ _) (.cells #[.int .i64 a1, .int .i64 a2, .int .i64 a3, .int .i64 am, .int .i64 a5, .int .i64 a6, .slice D ds.length dq] 61)) nq))
  have hsz1 := HB1.out.size
  generalize (w1.alloc (.cells #[.int .i64 a1, .int .i64 a2, .int .i64 a3, .int .i64 am, .int .i64 a5, .int .i64 a6, .slice D ds.length dq] 61)).drewN nq = w2 at *
  generalize w1.heap.size = pa at *
  clear HB1 HD1 hs1
  have la := CA.out.1
  have xa0 := (CA.out.at 0 rfl).1
  have xa1 := (CA.out.at 1 rfl).1
  have xa2 := (CA.out.at 2 rfl).1
  have xa3 := (CA.out.at 3 rfl).1
  have xa4 := (CA.out.at 4 rfl).1
  have xa5 := (CA.out.at 5 rfl).1
  have xa6 := (CA.out.at 6 rfl).1
  go_wp2_with (fail)
  go_at_call 11
  refine (picked_any _ _ _ (by omega) (by omega) (by omega)).mono ?_
  rintro e w' ⟨rfl, rfl⟩
  go_wp2_with (fail)
  rw [HZ.out]
  go_at_call 23
  refine (R1.out D ds.length dq w2 rfl HD2.out HN.out).mono ?_
  rintro e w3 ⟨E, eq, rfl, ho, hb⟩
  have HB3 := Lib.hid (below_then' HB2.out hb)
  have HD3 := Lib.hid (HD2.out.below hb)
  have HE3 := Lib.hid ho.read
  have HNE := Lib.hid ho.nil
  have CA3 := Lib.hid (CA.out.after hb)
  have hs3 := hb.size
  clear ho hb xa0 xa1 xa2 xa3 xa4 xa5 xa6
  have la3 := CA3.out.1
  have xa0 := (CA3.out.at 0 rfl).1
  have xa1 := (CA3.out.at 1 rfl).1
  have xa2 := (CA3.out.at 2 rfl).1
  have xa3 := (CA3.out.at 3 rfl).1
  have xa4 := (CA3.out.at 4 rfl).1
  have xa5 := (CA3.out.at 5 rfl).1
  have xa6 := (CA3.out.at 6 rfl).1
  go_wp2_with (fail)
  go_at_call 23
  refine (R2.out E e1.length eq _ rfl (HE3.out.below (blw_alloc (Below.refl _ _) _)) HNE.out).mono ?_
  rintro e w4 ⟨F, fq, rfl, ho, hb⟩
  have HB4 := Lib.hid (below_then' (blw_alloc HB3.out _) hb)
  have HD4 := Lib.hid ((HD3.out.below (blw_alloc (Below.refl _ _) _)).below hb)
  have HF4 := Lib.hid ho.read
  have CA4 := Lib.hid ((CA3.out.alloc _).after hb)
  clear ho hb xa0 xa1 xa2 xa3 xa4 xa5 xa6
  have la4 := CA4.out.1
  have xa0 := (CA4.out.at 0 rfl).1
  have xa1 := (CA4.out.at 1 rfl).1
  have xa2 := (CA4.out.at 2 rfl).1
  have xa3 := (CA4.out.at 3 rfl).1
  have xa4 := (CA4.out.at 4 rfl).1
  have xa5 := (CA4.out.at 5 rfl).1
  have xa6 := (CA4.out.at 6 rfl).1
  go_wp2_with (fail)
  go_at_call 23
  refine (R3.out D ds.length dq _ rfl (HD4.out.below (blw_alloc (Below.refl _ _) _)) HN.out).mono ?_
  rintro e w5 ⟨G, gq, rfl, ho, hb⟩
  have HB5 := Lib.hid (below_then' (blw_alloc HB4.out _) hb)
  have HF5 := Lib.hid ((HF4.out.below (blw_alloc (Below.refl _ _) _)).below hb)
  have HG5 := Lib.hid ho.read
  have CC5 := Lib.hid ((show Cs (w4.alloc (.cells #[.int .i64 c1, .int .i64 c2, .int .i64 c3, .int .i64 cm, .int .i64 c5, .int .i64 c6, .slice F e2.length fq] 61)) w4.heap.size [.int .i64 c1, .int .i64 c2, .int .i64 c3, .int .i64 cm, .int .i64 c5, .int .i64 c6, .slice F e2.length fq] from Cs.new rfl).after hb)
  have CA5 := Lib.hid ((CA4.out.alloc _).after hb)
  clear ho hb xa0 xa1 xa2 xa3 xa4 xa5 xa6
  have la5 := CA5.out.1
  have lc5 := CC5.out.1
  have xa0 := (CA5.out.at 0 rfl).1
  have xa1 := (CA5.out.at 1 rfl).1
  have xa2 := (CA5.out.at 2 rfl).1
  have xa3 := (CA5.out.at 3 rfl).1
  have xa4 := (CA5.out.at 4 rfl).1
  have xa5 := (CA5.out.at 5 rfl).1
  have xa6 := (CA5.out.at 6 rfl).1
  have xc0 := (CC5.out.at 0 rfl).1
  have xc1 := (CC5.out.at 1 rfl).1
  have xc2 := (CC5.out.at 2 rfl).1
  have xc3 := (CC5.out.at 3 rfl).1
  have xc4 := (CC5.out.at 4 rfl).1
  have xc5 := (CC5.out.at 5 rfl).1
  have xc6 := (CC5.out.at 6 rfl).1
  go_wp2_with (fail)
  go_at_call 24
  refine (sameAcc_any ⟨c1, c2, c3, cm, c5, c6⟩ e2 F G fq gq _ (HF5.out.below (blw_alloc (Below.refl _ _) _)) (HG5.out.below (blw_alloc (Below.refl _ _) _))).mono ?_
  rintro e w6 ⟨rfl, hb⟩
  have HB6 := Lib.hid (below_then' (blw_alloc HB5.out _) hb)
  have CC6 := Lib.hid ((CC5.out.alloc _).after hb)
  have CA6 := Lib.hid ((CA5.out.alloc _).after hb)
  clear hb xa0 xa1 xa2 xa3 xa4 xa5 xa6 xc0 xc1 xc2 xc3 xc4 xc5 xc6
  have xa3 := (CA6.out.at 3 rfl).1
  have xc3 := (CC6.out.at 3 rfl).1
  have xc4 := (CC6.out.at 4 rfl).1
  rw [HCM.out] at xc3
  have tzz : (z == z) = true := by simp
  by_cases hza : z = am
  · have t1 : (z == am) = true := by simp [hza]
    have HZA := Lib.hid hza
    clear hza
    go_wp2
    go_ret
    exact ⟨rfl, HB6.out⟩
  · have t1 : (z == am) = false := by simp [hza]
    have hc0 : c5 = 0 := by
      rcases HCB.out with h | h
      · exact absurd h hza
      · exact h
    rw [hc0] at xc4
    clear hza hc0
    go_wp2
    go_ret
    exact ⟨rfl, HB6.out⟩
end Go.Proofs.Ythalkihhkkgkiaa.RollSteps
