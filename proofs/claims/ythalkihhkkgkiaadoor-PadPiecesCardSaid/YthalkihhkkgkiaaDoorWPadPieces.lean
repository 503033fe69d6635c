/- The walk of PadPieces. -/
import Derived.Test.YthalkihhkkgkiaaDoorPad5
import Derived.Test.YthalkihhkkgkiaaDoorOpenS
import Derived.Deep.RegionLaw
namespace Go.Proofs.YthalkihhkkgkiaaDoor.PadPieces
open Go Go.RowKit Go.Proofs.YthalkihhkkgkiaaDoor.Base Go.Proofs.YthalkihhkkgkiaaDoor.Pad
set_option linter.unusedVariables false
set_option linter.unusedSimpArgs false
set_option maxRecDepth 20000
theorem keys_text (F : List Int) (hv : ∀ z ∈ F, Utf8.valid z = true) (hl : F.length ≤ 402) (p : Pd) (g : List En) (h : keysP F (⟨[], false⟩, []) = (p, g)) (W : World) : Calls Tryd.prog 8 #[.string (runesBytes F)] W fun e w' => (∃ A q, e = .returned (.tuple #[.slice A g.length q, .agg p.vals, .int .i64 0]) ∧ OwEn W.heap.size w' A q g) ∧ Below W.heap.size W w' := by
  have hz := runesBytes_size_le F
  have hk := keys_any (runesBytes F) (by omega) W
  rw [runes_back F hv, h] at hk
  exact hk.mono fun e w' ⟨h1, _, h3⟩ => ⟨h1, h3⟩
theorem rd32 {B : Nat} {w : World} {A : Option Addr} {q : Nat} {xs : List Int} (h : OwC B w A q xs) : RdE 1 (fun n : Int => [Value.int .i32 n]) w A xs := by
  unfold OwC at h
  rw [List.map_eq_flatMap] at h
  obtain ⟨A', c', e, hr⟩ := own_read (enc := fun n : Int => [Value.int .i32 n]) (fun _ => rfl) (by decide) h
  cases e
  exact hr
theorem rd_set {α : Type} {size : Nat} {enc : α → List Value} {w : World} {A : Option Addr} {xs : List α} (h : RdE size enc w A xs) (p : Addr) (v : Value) (he : ∀ ad, A = some ad → ad.block ≠ p.block) : RdE size enc (w.setCell p v) A xs :=
  ⟨h.1, fun hn => by
    obtain ⟨ad, e, hc⟩ := h.2 hn
    exact ⟨ad, e, fun i x hx j u hu => (World.cell?_of_block (a := ad.add (i * size + j)) (by rw [show (ad.add (i * size + j)).block = ad.block from add_block _ _]; exact heap_setCell_other w p _ v (he ad e))).trans (hc i x hx j u hu)⟩⟩
theorem own_setCell {B : Nat} {e : TypeId} {k : Nat} {v : Value} {n : Nat} {xs : List Value} {w : World} (h : w.ownsRow B e k v n xs) (p : Addr) (u : Value) (hp : v.ownBlock ≠ some p.block) : (w.setCell p u).ownsRow B e k v n xs :=
  ⟨h.1, h.2.imp (fun x => x) (fun ⟨g, cap, cur, h1, h2, h3, h4⟩ => ⟨g, cap, cur, h1, h2, (heap_setCell_other w p g u (by subst h1; intro e; exact hp (by rw [← e]; rfl))).trans h3, h4⟩)⟩
theorem own_row {B : Nat} {e : TypeId} {k : Nat} {v : Value} {n : Nat} {xs : List Value} {w w' : World} {row : Option Nat} (h : w.ownsRow B e k v n xs) (hg : w.grownBy w' row) (lo hi : Nat) (h1 : ∀ g, v.ownBlock = some g → lo ≤ g ∧ g < hi) (h2 : ∀ g, row = some g → g < lo ∨ hi ≤ g) : w'.ownsRow B e k v n xs := by
  refine h.kept hg ?_
  cases hv : v.ownBlock with
  | none => exact .inl rfl
  | some g =>
    refine .inr fun e' => ?_
    have a := h1 g hv
    have b := h2 g e'.symm
    omega
theorem cs_row {b : Nat} {vs : List Value} {w w' : World} {row : Option Nat} (h : Cs w b vs) (hg : w.grownBy w' row) (hr : ∀ g, row = some g → g ≠ b) : Cs w' b vs :=
  cs_same h (hg.block b h.1 (fun e => hr b e.symm rfl))
set_option maxHeartbeats 8000000 in
theorem walk (x : List Int) (XA : Option Addr) (xc : Nat) (y : List Int) (YA : Option Addr) (yc : Nat) (w : World) (hx : RdE 1 encI w XA x) (kx : ∀ n ∈ x, (Lit.int .i64 n).wf = true) (hy : RdE 1 encI w YA y) (ky : ∀ n ∈ y, (Lit.int .i64 n).wf = true) :
    Calls Tryd.prog 6 #[.slice XA x.length xc, .slice YA y.length yc] w fun e w' => e = .returned (.bool true) ∧ Below w.heap.size w w' := by
  have HX := Lib.hid (characters_any x XA xc w hx kx)
  have HY := Lib.hid (fun W (h : RdE 1 encI W YA y) => characters_any y YA yc W h ky)
  have HRY := Lib.hid hy
  clear hx hy kx ky
  have va := chL_valid x
  have vb := chL_valid y
  have la := chL_len x
  have lb := chL_len y
  have bb := chL_bd y
  generalize chL x = FA at *
  generalize chL y = FB at *
  generalize x.length = xn at *
  generalize y.length = yn at *
  obtain ⟨⟨pa, ga⟩, hka⟩ : ∃ z, z = keysP FA (⟨[], false⟩, []) := ⟨_, rfl⟩
  have oka : pa.ok := by
    have h := keysP_ok FA (⟨[], false⟩, []) ⟨by simp, by simp⟩
    rw [← hka] at h
    exact h
  have cga : ga.length ≤ 200 := by
    have h := keys_count FA (⟨[], false⟩, [])
    rw [← hka] at h
    simp only [List.length_nil] at h
    omega
  obtain ⟨⟨pb, gb⟩, hkb⟩ : ∃ z, z = keysP FB (pa, ga) := ⟨_, rfl⟩
  have okb : pb.ok := by
    have h := keysP_ok FB (pa, ga) oka
    rw [← hkb] at h
    exact h
  have cgb : gb.length ≤ 400 := by
    have h := keys_count FB (pa, ga)
    rw [← hkb] at h
    simp only at h
    omega
  obtain ⟨e7, hks⟩ := keys_seven pb gb okb
  have HK1 := Lib.hid (fun W => keys_text FA va (by omega) pa ga hka.symm W)
  have hab : keysP (FA ++ FB) (⟨[], false⟩, []) = (pb, gb) := by rw [keysP_append, ← hka, ← hkb]
  have vab : ∀ z ∈ FA ++ FB, Utf8.valid z = true := fun z hz => (List.mem_append.1 hz).elim (va z) (vb z)
  have HK2 := Lib.hid (fun W => keys_text (FA ++ FB) vab (by simp; omega) pb gb hab W)
  have HK3 := Lib.hid (fun W => keys_text (FA ++ FB ++ [55, 35]) (fun z hz => (List.mem_append.1 hz).elim (vab z) (fun h => by simp at h; rcases h with rfl | rfl <;> decide)) (by simp; omega) ⟨[], false⟩ (gb ++ [e7]) (by rw [keysP_append, hab, hks]) W)
  simp only [Pd.vals, List.length_append, List.length_cons, List.length_nil, Nat.zero_add, show strOf [] = (⟨#[]⟩ : ByteArray) from rfl] at HK3
  have hj1 := bytes_join FA FB
  have hj2 := bytes_seven (FA ++ FB)
  have hz1 := runesBytes_size_le FA
  have hz2 := runesBytes_size_le FB
  have HCA := Lib.hid (fun A q B W ho => conv_all FA A q B W ho)
  have HCB := Lib.hid (fun A q B W ho => conv_all FB A q B W ho)
  have hc1 : ¬ 9223372036854775807 < (runesBytes FA).size + (runesBytes FB).size := by omega
  have hc2 : ¬ 9223372036854775807 < (runesBytes (FA ++ FB)).size + 2 := by
    have h := runesBytes_size_le (FA ++ FB)
    simp at h
    omega
  have HKB := Lib.hid hkb
  have HBB := Lib.hid bb
  clear hka hkb okb hks hab vab va vb hz1 hz2 bb
  have hga7 : (gb ++ [e7]).length = gb.length + 1 := by simp
  generalize runesBytes (FA ++ FB ++ [55, 35]) = X3 at *
  generalize runesBytes (FA ++ FB) = X2 at *
  generalize runesBytes FA = X0 at *
  generalize runesBytes FB = X1 at *
  go_enter Tryd.func6, Tryd.ntmps6
  go_wp2_with (fail)
  go_at_call 12
  refine HX.out.mono ?_
  rintro e w1 ⟨⟨BA, qa, rfl, hoa⟩, hb1⟩
  have HB1 := Lib.hid hb1
  have s1 := hb1.size
  go_wp2_with (fail)
  go_at_call 12
  refine (HY.out _ (HRY.out.below HB1.out)).mono ?_
  rintro e w2 ⟨⟨BB, qb, rfl, hob⟩, hb2⟩
  have HB2 := Lib.hid (HB1.out.trans (hb2.mono s1))
  have s2 := hb2.size
  have hoa2 : OwC w.heap.size w2 BA qa FA := own_kept hoa hb2
  have HOA := Lib.hid hoa2
  have HOB := Lib.hid hob
  have hcv := HCA.out BA qa _ w2 hoa2
  have lA := Lib.hid (fun k (hk : (Value.slice BA FA.length qa).ownBlock = some k) => hoa2.lt k hk)
  have lB := Lib.hid (fun k (hk : (Value.slice BB FB.length qb).ownBlock = some k) => hob.lt k hk)
  clear hoa hoa2 hob hb1 hb2
  go_wp2_with (fail)
  go_at_call 8
  refine (HK1.out _).mono ?_
  rintro e w3 ⟨⟨G, gq, rfl, hog⟩, hb3⟩
  clear hcv
  have s3 := hb3.size
  have HB3 := Lib.hid (HB2.out.trans (hb3.mono (by omega)))
  have HOA3 : Hid (OwC w.heap.size w3 BA qa FA) := Lib.hid (own_kept HOA.out hb3)
  have HOB3 : Hid (OwC w1.heap.size w3 BB qb FB) := Lib.hid (own_kept HOB.out hb3)
  have HOG := Lib.hid hog
  have lG := Lib.hid (fun k (hk : (Value.slice G ga.length gq).ownBlock = some k) => hog.lt k hk)
  clear HOA HOB hog hb3
  simp only [Pd.vals]
  obtain ⟨u3, hu3⟩ : ∃ u, u = w3.alloc (.cells #[.string (strOf pa.d), .bool pa.b] 26) := ⟨_, rfl⟩
  have hb3u : Below w3.heap.size w3 u3 := by rw [hu3]; exact blw_alloc (Below.refl _ _) _
  have su3 : u3.heap.size = w3.heap.size + 1 := by rw [hu3]; simp
  have HBu : Hid (Below w.heap.size w u3) := Lib.hid (HB3.out.trans (hb3u.mono (by omega)))
  have hoau : OwC w.heap.size u3 BA qa FA := own_kept HOA3.out hb3u
  have hobu : OwC w1.heap.size u3 BB qb FB := own_kept HOB3.out hb3u
  have HOGu : Hid (OwEn w2.heap.size u3 (G) gq ga) := Lib.hid (own_kept HOG.out hb3u)
  have CPu : Hid (Cs u3 w3.heap.size [.string (strOf pa.d), .bool pa.b]) := Lib.hid (by rw [hu3]; exact Cs.new rfl)
  have HOAu := Lib.hid hoau
  have HOBu := Lib.hid hobu
  have hcv0 := HCA.out BA qa _ u3 hoau
  have hcv1 := HCB.out BB qb _ u3 hobu
  rw [hu3] at hcv0 hcv1
  clear hoau hobu hb3u HOA3 HOB3 HOG HB3
  go_wp2_with (fail)
  go_at_call 8
  rw [← hu3]
  clear hcv0 hcv1 hu3
  refine (HK2.out _).mono ?_
  rintro e w4 ⟨⟨L, lq, rfl, hol⟩, hb4⟩
  have s4 := hb4.size
  simp only [Pd.vals]
  obtain ⟨u4, hu4⟩ : ∃ u, u = w4.alloc (.cells #[.string (strOf pb.d), .bool pb.b] 26) := ⟨_, rfl⟩
  have hb4u : Below w4.heap.size w4 u4 := by rw [hu4]; exact blw_alloc (Below.refl _ _) _
  have su4 : u4.heap.size = w4.heap.size + 1 := by rw [hu4]; simp
  have HB4 : Hid (Below w.heap.size w u4) := Lib.hid ((HBu.out.trans (hb4.mono (by omega))).trans (hb4u.mono (by omega)))
  have HOA4 : Hid (OwC w.heap.size u4 BA qa FA) := Lib.hid (own_kept (own_kept HOAu.out hb4) hb4u)
  have HOB4 : Hid (OwC w1.heap.size u4 BB qb FB) := Lib.hid (own_kept (own_kept HOBu.out hb4) hb4u)
  have HOG4 : Hid (OwEn w2.heap.size u4 G gq ga) := Lib.hid (own_kept (own_kept HOGu.out hb4) hb4u)
  have HOL4 : Hid (OwEn u3.heap.size u4 L lq gb) := Lib.hid (own_kept hol hb4u)
  have CP4 : Hid (Cs u4 w3.heap.size [.string (strOf pa.d), .bool pa.b]) := Lib.hid (((CPu.out).after hb4).after hb4u)
  have CQ4 : Hid (Cs u4 w4.heap.size [.string (strOf pb.d), .bool pb.b]) := Lib.hid (by rw [hu4]; exact Cs.new rfl)
  have lL := Lib.hid (fun k (hk : (Value.slice L gb.length lq).ownBlock = some k) => hol.lt k hk)
  clear HOAu HOBu HOGu CPu HBu hol hb4 hb4u
  go_upto_region 99 with fail
  rw [← hu4]
  clear hu4
  go_loopw [7, 13] (fun g i wr => ∃ (j : Nat) (p : Pd) (gs : List En) (A : Option Addr) (q : Nat), j ≤ FB.length ∧ g = .slice A gs.length q ∧ i = .int .i64 j ∧ keysP (FB.take j) (pa, ga) = (p, gs) ∧ p.ok ∧ OwEn w.heap.size wr A q gs ∧ (∀ k, (Value.slice A gs.length q).ownBlock = some k → w2.heap.size ≤ k ∧ (k < w3.heap.size ∨ w4.heap.size < k)) ∧ OwC w.heap.size wr BA qa FA ∧ OwC w1.heap.size wr BB qb FB ∧ OwEn u3.heap.size wr L lq gb ∧ Cs wr w3.heap.size [.string (strOf p.d), .bool p.b] ∧ Cs wr w4.heap.size [.string (strOf pb.d), .bool pb.b] ∧ Below w.heap.size w wr) (fun _ i _ => FB.length - (intOf i).toNat)
  case atStart => exact ⟨0, pa, ga, G, gq, by omega, rfl, rfl, rfl, oka, own_less HOG4.out (by omega), fun k hk => by have := lG.out k hk; omega, HOA4.out, HOB4.out, HOL4.out, CP4.out, CQ4.out, HB4.out⟩
  case round =>
    obtain ⟨j, p, gs, A, q, hj, rfl, rfl, hk, hp, h1, h2, h3, h4, h5, h6, h7, h8⟩ := hrel
    have HG := Lib.hid h1
    have lG2 := Lib.hid h2
    have HA := Lib.hid h3
    have HBb := Lib.hid h4
    have HL := Lib.hid h5
    have CP := Lib.hid h6
    have CQ := Lib.hid h7
    have HBr := Lib.hid h8
    have HKJ := Lib.hid hk
    clear h1 h2 h3 h4 h5 h6 h7 h8 hk HOA4 HOB4 HOG4 HOL4 CP4 CQ4 HB4 lG
    have lq4 := CQ.out.1
    by_cases hlt : j < FB.length
    · obtain ⟨z, hz⟩ : ∃ z, FB[j]? = some z := ⟨FB[j], List.getElem?_eq_getElem hlt⟩
      have hzb := HBB.out z (List.mem_of_getElem? hz)
      have hz' : FB[j] = z := by rw [List.getElem?_eq_getElem hlt] at hz; exact Option.some.inj hz
      obtain ⟨ad, rfl, hcell⟩ := (rd32 HBb.out).at1 j hlt (.int .i32 z) (by rw [hz'])
      have hca : ∀ o, (wr.alloc o).cell? (ad.add j) = some (.int .i32 z) := fun o => by
        obtain ⟨a2, e, h⟩ := ((rd32 HBb.out).below (blw_alloc (Below.refl _ _) o)).at1 j hlt (.int .i32 z) (by rw [hz'])
        cases e
        exact h
      have hcd : ∀ o, (wr.drew.alloc o).cell? (ad.add j) = some (.int .i32 z) := hca
      have HP := Lib.hid (fun W => Press_any p z W hp (by omega) (by omega))
      have hkn := keysP_take FB j z hz (pa, ga) p gs HKJ.out
      have hpn := press_ok p z hp
      have hel := ents_len (pressP p z).2
      have hcn : (gs ++ ents (pressP p z).2).length ≤ 400 := by
        have h := keys_count (FB.take (j + 1)) (pa, ga)
        rw [hkn] at h
        simp only [List.length_take] at h
        try simp only at h
        omega
      generalize (pressP p z).1 = p2 at *
      generalize ents (pressP p z).2 = es at *
      have pg0 := (CP.out.at 0 rfl).1
      have pg1 := (CP.out.at 1 rfl).1
      have lp := CP.out.1
      have HKN := Lib.hid hkn
      clear hz hz' hkn
      simp only [Pd.vals] at HP
      go_upto_region 10 with fail
      go_cut [14, 15, 16] (fun s14 s15 s16 wx => ∃ b Ls lc, s14 = .pointer (some ⟨b, 0, none⟩) ∧ s15 = .slice Ls es.length lc ∧ s16 = .int .i64 0 ∧ RdE 2 En.enc wx Ls es ∧ (Ls = none → es = [] ∧ lc = 0) ∧ Cs wx b [.string (strOf p2.d), .bool p2.b] ∧ wr.heap.size ≤ b ∧ Below wr.heap.size wr wx)
      case first =>
        go_region_law (first | (go_simp; go_at_call 10; refine (HP.out _).mono ?_; rintro e v1 ⟨⟨Ls, lc, rfl, hr, hn, hf⟩, hb1⟩; have hz1 := hb1.size; have HBV : Hid (Below wr.heap.size wr v1) := Lib.hid (below_then' (by repeat (first | with_reducible exact Below.refl _ _ | with_reducible refine blw_alloc ?_ _ | with_reducible refine Below.drew ?_)) hb1); have HR1 := Lib.hid hr; have HN1 := Lib.hid hn; have HF1 := Lib.hid hf; clear hr hn hf; (try have CQ1 : Hid (Cs v1 (wr.heap.size) [.string ⟨#[]⟩, .bool false]) := Lib.hid (by first | exact (Cs.new rfl).after hb1 | exact (Cs.new rfl).drew.after hb1 | exact (Cs.new (by simp)).after hb1)); (try have qg0 := (CQ1.out.at 0 rfl).1); (try have qg1 := (CQ1.out.at 1 rfl).1); (try have qf0 := (CQ1.out.at 0 rfl).2); (try have qf1 := (CQ1.out.at 1 rfl).2); (try have lq := CQ1.out.1)))
        all_goals go_wp2_with fail
        all_goals go_meet
        all_goals first
          | exact ⟨_, Ls, lc, rfl, rfl, rfl, HR1.out.below (blw_alloc (Below.refl _ _) _), HN1.out, Cs.new rfl, HBV.out.size, blw_alloc HBV.out _⟩
          | exact ⟨wr.heap.size, Ls, lc, rfl, rfl, rfl, rd_set (rd_set HR1.out _ _ (fun a e => by have := HF1.out a e; simp at this; simp; omega)) _ _ (fun a e => by have := HF1.out a e; simp at this; simp; omega), HN1.out, Cs.put (i := 1) (Cs.put (i := 0) CQ1.out (by simp) rfl) (by simp) rfl, Nat.le_refl _, (HBV.out.setCell (p := ⟨wr.heap.size, 0, none⟩) (Nat.le_refl _) _).setCell (p := ⟨wr.heap.size, 1, none⟩) (Nat.le_refl _) _⟩
      case rest =>
        obtain ⟨b, Ls, lc, rfl, rfl, rfl, hr, hn, hcb, hbw, hbc⟩ := hcut
        have HR := Lib.hid hr
        have HN := Lib.hid hn
        have CB := Lib.hid hcb
        have HBc := Lib.hid (HBr.out.trans (hbc.mono HBr.out.size))
        have HGc : Hid (OwEn w.heap.size wc (A) q gs) := Lib.hid (own_kept HG.out hbc)
        have HAc : Hid (OwC w.heap.size wc BA qa FA) := Lib.hid (own_kept HA.out hbc)
        have HBbc : Hid (OwC w1.heap.size wc (some ad) qb FB) := Lib.hid (own_kept HBb.out hbc)
        have HLc : Hid (OwEn u3.heap.size wc L lq gb) := Lib.hid (own_kept HL.out hbc)
        have CPc := Lib.hid (CP.out.after hbc)
        have CQc := Lib.hid (CQ.out.after hbc)
        have hsc := hbc.size
        have lGw := Lib.hid (fun k (hk : (Value.slice A gs.length q).ownBlock = some k) => HG.out.lt k hk)
        have hl24 : (gs.length + es.length) * 24 ≤ 140737488355328 := by simp at hcn; omega
        clear hr hn hcb hbc pg0 pg1 hcell hca hcd
        go_wp2_with (at_builtin; refine appNh (w0 := w) w.heap.size rfl (.tmp 65) (.tmp 66) 24 31 (.agg #[.string ByteArray.empty, .int .i64 0]) 2 24 rfl Tryd.underlying24 info_en rfl (by decide) (by decide) _ _ _ es Ls lc rfl rfl HN.out (fun _ => rfl) HR.out ?c1 HGc.out HBc.out HBc.out.size hl24 ?_; (case c1 => intro x u hu; simp [En.enc] at hu; rcases hu with rfl | rfl <;> rfl); intro v1 w5 ho5 hb5 hg5 hat5; have CB5 := Lib.hid (cs_row CB.out hg5 (fun g e => by have := lGw.out g e; omega)); have CP5 := Lib.hid (cs_row CPc.out hg5 (fun g e => by have := lG2.out g e; omega)); have CQ5 := Lib.hid (cs_row CQc.out hg5 (fun g e => by have := lG2.out g e; omega)); have HA5 : Hid (OwC w.heap.size w5 BA qa FA) := Lib.hid (own_row HAc.out hg5 0 w2.heap.size (fun g e => by have := lA.out g e; omega) (fun g e => by have := lG2.out g e; omega)); have HB5 : Hid (OwC w1.heap.size w5 (some ad) qb FB) := Lib.hid (own_row HBbc.out hg5 0 w2.heap.size (fun g e => by have := lB.out g e; omega) (fun g e => by have := lG2.out g e; omega)); have HL5 : Hid (OwEn u3.heap.size w5 L lq gb) := Lib.hid (own_row HLc.out hg5 w3.heap.size w4.heap.size (fun g e => by have := lL.out g e; omega) (fun g e => by have := lG2.out g e; omega)); have HG5 := Lib.hid ho5; have HW5 := Lib.hid hb5; have HAT := Lib.hid hat5; clear ho5 hb5 hg5 hat5; have b5g0 := (CB5.out.at 0 rfl).1; have b5g1 := (CB5.out.at 1 rfl).1; have lb5 := CB5.out.1; have p5g0 := (CP5.out.at 0 rfl).1; have p5f0 := (CP5.out.at 0 rfl).2; have p5g1 := (CP5.out.at 1 rfl).1; have p5f1 := (CP5.out.at 1 rfl).2; have lp5 := CP5.out.1)
        go_roundw
        case rel =>
          obtain ⟨A2, q2, rfl⟩ : ∃ A q, v1 = .slice A (gs ++ es).length q := by
            rw [List.length_append]
            rcases HG5.out.2 with ⟨h1, h2⟩ | ⟨g, cap, cur, h1, _⟩
            · exact ⟨none, 0, by rw [h1, ← h2]⟩
            · exact ⟨_, _, h1⟩
          have ho : OwEn w.heap.size w5 A2 q2 (gs ++ es) := by
            have h := HG5.out
            unfold OwEn
            rw [List.flatMap_append]
            rw [List.length_append] at h ⊢
            exact h
          have hne : ∀ k, (Value.slice A2 (gs ++ es).length q2).ownBlock = some k → w2.heap.size ≤ k ∧ (k < w3.heap.size ∨ w4.heap.size < k) := by
            intro k hk
            rcases HAT.out with h | ⟨b2, h, hb⟩
            · rw [h] at hk
              exact lG2.out k hk
            · rw [h] at hk
              cases hk
              omega
          refine ⟨j + 1, p2, gs ++ es, A2, q2, by omega, rfl, by go_num, HKN.out, hpn, ?_, hne, ?_, ?_, ?_, ?_, ?_, ?_⟩
          · exact own_setCell (own_setCell ho _ _ (fun e => by have := hne w3.heap.size e; omega)) _ _ (fun e => by have := hne w3.heap.size e; omega)
          · exact own_setCell (own_setCell HA5.out _ _ (fun e => by have := lA.out w3.heap.size e; omega)) _ _ (fun e => by have := lA.out w3.heap.size e; omega)
          · exact own_setCell (own_setCell HB5.out _ _ (fun e => by have := lB.out w3.heap.size e; omega)) _ _ (fun e => by have := lB.out w3.heap.size e; omega)
          · exact own_setCell (own_setCell HL5.out _ _ (fun e => by have := lL.out w3.heap.size e; omega)) _ _ (fun e => by have := lL.out w3.heap.size e; omega)
          · exact Cs.put (i := 1) (Cs.put (i := 0) CP5.out (by simp) rfl) (by simp) rfl
          · exact Cs.other (a := ⟨w3.heap.size, 1, none⟩) (by show w3.heap.size ≠ w4.heap.size; omega) (Cs.other (a := ⟨w3.heap.size, 0, none⟩) (by show w3.heap.size ≠ w4.heap.size; omega) CQ5.out _) _
          · exact (HW5.out.setCell (p := ⟨w3.heap.size, 0, none⟩) (by show w.heap.size ≤ w3.heap.size; omega) _).setCell (p := ⟨w3.heap.size, 1, none⟩) (by show w.heap.size ≤ w3.heap.size; omega) _
        case measure => simp [intOf]; omega
    · obtain rfl : j = FB.length := by omega
      have hkj := HKJ.out
      rw [List.take_length, ← HKB.out] at hkj
      simp only [Prod.mk.injEq] at hkj
      obtain ⟨rfl, rfl⟩ := hkj
      have hcv0 := HCA.out BA qa _ wr HA.out
      have hcv1 := HCB.out BB qb _ wr HBb.out
      go_wp2_with (fail)
      go_at_call 8
      clear hcv0 hcv1
      refine (HK3.out _).mono ?_
      rintro e w6 ⟨⟨L6, l6, rfl, ho6⟩, hb6⟩
      have s6 := hb6.size
      obtain ⟨u6, hu6⟩ : ∃ u, u = w6.alloc (.cells #[.string ⟨#[]⟩, .bool false] 26) := ⟨_, rfl⟩
      have hb6u : Below w6.heap.size w6 u6 := by rw [hu6]; exact blw_alloc (Below.refl _ _) _
      have HB6 : Hid (Below w.heap.size w u6) := Lib.hid ((HBr.out.trans (hb6.mono HBr.out.size)).trans (hb6u.mono (by have := HBr.out.size; omega)))
      have CP6 := Lib.hid ((CP.out.after hb6).after hb6u)
      have CQ6 := Lib.hid ((CQ.out.after hb6).after hb6u)
      have CR6 : Hid (Cs u6 w6.heap.size [.string ⟨#[]⟩, .bool false]) := Lib.hid (by rw [hu6]; exact Cs.new rfl)
      have HG6 : Hid (OwEn w.heap.size u6 A q gb) := Lib.hid (own_kept (own_kept HG.out hb6) hb6u)
      have HL6 : Hid (OwEn u3.heap.size u6 L lq gb) := Lib.hid (own_kept (own_kept HL.out hb6) hb6u)
      have x0 := (CP6.out.at 0 rfl).1
      have x1 := (CP6.out.at 1 rfl).1
      have y0 := (CQ6.out.at 0 rfl).1
      have y1 := (CQ6.out.at 1 rfl).1
      have z0 := (CR6.out.at 0 rfl).1
      have z1 := (CR6.out.at 1 rfl).1
      have HR1 := Lib.hid (by have h := HG6.out; unfold OwEn at h; obtain ⟨A', c', e, hr⟩ := own_read (enc := En.enc) (fun _ => rfl) (by decide) h; cases e; exact hr : RdE 2 En.enc u6 A gb)
      have HR2 := Lib.hid (by have h := HL6.out; unfold OwEn at h; obtain ⟨A', c', e, hr⟩ := own_read (enc := En.enc) (fun _ => rfl) (by decide) h; cases e; exact hr : RdE 2 En.enc u6 L gb)
      have HSE := Lib.hid (same_entries gb A L q lq u6 HR1.out HR2.out)
      clear hb6 hb6u ho6
      subst hu6
      clear hlt hj HKJ HKB lG2 hga7 hj1 hj2 hc1 hc2 HR1 HR2 HG6 HL6
      clear HK1 HK2 HK3 HCA HCB HX HY HRY HA HBb HG HL lA lB lL
      generalize strOf pb.d = sp at *
      generalize pb.b = bp at *
      generalize gb.length = nb at *
      go_wp2_with (go_at_call 13; refine HSE.out.mono ?_; rintro e w7 ⟨rfl, hb7⟩)
      go_ret
      exact ⟨rfl, HB6.out.trans (hb7.mono HB6.out.size)⟩
end Go.Proofs.YthalkihhkkgkiaaDoor.PadPieces
