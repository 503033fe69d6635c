/- The walk of MeterTurns. -/
import Derived.Test.YtjfjmlcibhdilaaMet5
namespace Go.Proofs.Ytjfjmlcibhdilaa.MeterTurns
open Go.RowKit Go.Proofs.Ytjfjmlcibhdilaa.Base Go.Proofs.Ytjfjmlcibhdilaa.Win Go.Proofs.Ytjfjmlcibhdilaa.Orc Go.Proofs.Ytjfjmlcibhdilaa.Tok Go.Proofs.Ytjfjmlcibhdilaa.Met
set_option linter.unusedVariables false
set_option linter.unusedSimpArgs false
set_option maxRecDepth 20000
theorem ver_snoc (ps : List Pr) (p : Pr) (m r b t : Int) : verB (ps ++ [p]) m r b t = if same p m r b then p.t == t else verB ps m r b t := by
  unfold verB
  rw [had_snoc, tagL_snoc]
  cases h : same p m r b <;> simp
theorem ver_nil (m r b t : Int) : verB [] m r b t = false := rfl
/-- The three that are issued: the pairs. -/
theorem three (me rev rev1 a b c p q r : Int) (hab : a ≠ b) (hac : a ≠ c) (hbc : b ≠ c) :
    issL [] me rev a p = [⟨me, rev, a, p⟩] ∧ issT [] me rev a p = p ∧
    issL [⟨me, rev, a, p⟩] me rev b q = [⟨me, rev, a, p⟩, ⟨me, rev, b, q⟩] ∧ issT [⟨me, rev, a, p⟩] me rev b q = q ∧
    issL [⟨me, rev, a, p⟩, ⟨me, rev, b, q⟩] me rev1 c r = [⟨me, rev, a, p⟩, ⟨me, rev, b, q⟩, ⟨me, rev1, c, r⟩] ∧ issT [⟨me, rev, a, p⟩, ⟨me, rev, b, q⟩] me rev1 c r = r := by
  have h1 : had [⟨me, rev, a, p⟩] me rev b = false := by simp [had, same, hab]
  have h2 : had [⟨me, rev, a, p⟩, ⟨me, rev, b, q⟩] me rev1 c = false := by
    simp [had, same]
    exact ⟨fun _ => hac, fun _ => hbc⟩
  refine ⟨rfl, rfl, ?_, ?_, ?_, ?_⟩
  · unfold issL; rw [h1]; rfl
  · unfold issT; rw [h1]; rfl
  · unfold issL; rw [h2]; rfl
  · unfold issT; rw [h2]; rfl
theorem ver3 (me rev rev1 a b c p q r : Int) (m' r' b' t' : Int) : verB [⟨me, rev, a, p⟩, ⟨me, rev, b, q⟩, ⟨me, rev1, c, r⟩] m' r' b' t' =
    if me = m' ∧ rev1 = r' ∧ c = b' then r == t' else if me = m' ∧ rev = r' ∧ b = b' then q == t' else if me = m' ∧ rev = r' ∧ a = b' then p == t' else false := by
  rw [show [(⟨me, rev, a, p⟩ : Pr), ⟨me, rev, b, q⟩, ⟨me, rev1, c, r⟩] = (([] ++ [⟨me, rev, a, p⟩]) ++ [⟨me, rev, b, q⟩]) ++ [⟨me, rev1, c, r⟩] from rfl, ver_snoc, ver_snoc, ver_snoc, ver_nil]
  simp only [same, decide_eq_true_eq]
/-- The latest revision below n at which it verifies, where there is just one. -/
theorem seek_one (ps : List Pr) (me body tag : Int) (k : Nat) (h1 : verB ps me k body tag = true) (n : Nat) (hk : k < n) (h2 : ∀ j : Nat, k < j → j < n → verB ps me j body tag = false) : seek ps me body tag n = k := by
  induction n with
  | zero => omega
  | succ n ih =>
    show (if verB ps me n body tag then (n : Int) else seek ps me body tag n) = k
    by_cases e : k = n
    · subst e
      rw [h1, if_pos rfl]
    · rw [h2 n (by omega) (by omega), if_neg (by decide)]
      exact ih (by omega) (fun j h h' => h2 j h (by omega))
theorem seek_zero (ps : List Pr) (me body tag : Int) (n : Nat) (h2 : ∀ j : Nat, j < n → verB ps me j body tag = false) : seek ps me body tag n = -1 := by
  induction n with
  | zero => rfl
  | succ n ih =>
    show (if verB ps me n body tag then (n : Int) else seek ps me body tag n) = -1
    rw [h2 n (by omega), if_neg (by decide)]
    exact ih (fun j h => h2 j (by omega))
/-- The plain law. -/
theorem law (m : Mt) (rev1 p q r : Int) (old fresh : Tk) (hw : m.wh = 0 ∧ m.wb = 0) (hl : m.lock = 0) (hcr : m.cr = 0) (r0 : 0 ≤ m.rev) (r1 : m.rev < rev1) (r2 : rev1 ≤ 15)
    (ho : faultI old = 0) (hf : faultI fresh = 0) (o1 : old.cl = 0) (o2 : old.id = 2) (o3 : old.tag = p) (f1 : fresh.cl = 0) (f2 : fresh.id = 3) (f3 : fresh.tag = r) (q0 : 0 ≤ q) (q1 : q ≤ 65535) (ps : List Pr)
    (hps : ps = [⟨m.me, m.rev, bodyI old, p⟩, ⟨m.me, m.rev, bodyI ⟨2, 1, rev1, q⟩, q⟩, ⟨m.me, rev1, bodyI fresh, r⟩]) :
    bodyI old ≠ bodyI ⟨2, 1, rev1, q⟩ ∧ bodyI old ≠ bodyI fresh ∧ bodyI ⟨2, 1, rev1, q⟩ ≠ bodyI fresh ∧
    keyR m ps fresh = (badM m, 0, 12) ∧
    keyR m ps ⟨2, 1, rev1, q⟩ = ({ m with rev := rev1, wh := takeH 0 1, wb := takeB 0 0 1, bad := 0 }, 0, 0) ∧
    (keyR { m with rev := rev1, wh := takeH 0 1, wb := takeB 0 0 1, bad := 0 } ps old).2.2 = 11 ∧
    (keyR { m with rev := rev1, wh := takeH 0 1, wb := takeB 0 0 1, bad := 0 } ps fresh).2.2 = 0 ∧
    (keyR { m with rev := rev1, wh := takeH 0 1, wb := takeB 0 0 1, bad := 0 } ps fresh).2.1 = fresh.am ∧
    (keyR { m with rev := rev1, wh := takeH 0 1, wb := takeB 0 0 1, bad := 0 } ps fresh).1.cr = fresh.am := by
  obtain ⟨w1, w2⟩ := hw
  have lim : ∀ t : Tk, faultI t = 0 → t.cl = 0 → 1 ≤ t.am ∧ t.am ≤ 2097151 := by
    intro t h hc
    obtain ⟨_, _, ⟨a0, a1⟩, _⟩ := fault_ok h
    rw [hc] at a0 a1
    exact ⟨a0, a1⟩
  obtain ⟨x0, x1⟩ := lim old ho o1
  obtain ⟨y0, y1⟩ := lim fresh hf f1
  have ba : bodyI old = 4194304 + old.am := by unfold bodyI; rw [o1, o2]; omega
  have bc : bodyI fresh = 6291456 + fresh.am := by unfold bodyI; rw [f1, f2]; omega
  have bb : bodyI ⟨2, 1, rev1, q⟩ = 4398048608256 + rev1 := by unfold bodyI; simp only; omega
  have hab : bodyI old ≠ bodyI ⟨2, 1, rev1, q⟩ := by omega
  have hac : bodyI old ≠ bodyI fresh := by omega
  have hbc : bodyI ⟨2, 1, rev1, q⟩ ≠ bodyI fresh := by omega
  have hfc : faultI ⟨2, 1, rev1, q⟩ = 0 := by
    unfold faultI
    rw [if_pos (show clok 2 from by decide), if_pos]
    exact ⟨⟨by show (1 : Int) ≤ 1; omega, by show (1 : Int) ≤ 1048575; omega⟩, ⟨by show (1 : Int) ≤ rev1; omega, by show rev1 ≤ 15; omega⟩, q0, q1⟩
  have hfa : ∀ m' r' b' t', verB ps m' r' b' t' = if m.me = m' ∧ rev1 = r' ∧ bodyI fresh = b' then r == t' else if m.me = m' ∧ m.rev = r' ∧ bodyI ⟨2, 1, rev1, q⟩ = b' then q == t' else if m.me = m' ∧ m.rev = r' ∧ bodyI old = b' then p == t' else false := by
    intro m' r' b' t'
    rw [hps, ver3]
  have hv1 : verB ps m.me m.rev (bodyI ⟨2, 1, rev1, q⟩) q = true := by
    rw [hfa, if_neg (by omega), if_pos ⟨rfl, rfl, rfl⟩]
    simp
  have hv2 : verB ps m.me rev1 (bodyI fresh) fresh.tag = true := by
    rw [hfa, if_pos ⟨rfl, rfl, rfl⟩, f3]
    simp
  have hv3 : verB ps m.me m.rev (bodyI old) old.tag = true := by
    rw [hfa, if_neg (by omega), if_neg (by omega), if_pos ⟨rfl, rfl, rfl⟩, o3]
    simp
  have hv4 : ∀ j : Int, j ≠ rev1 → verB ps m.me j (bodyI fresh) fresh.tag = false := by
    intro j hj
    rw [hfa, if_neg (by omega), if_neg (by omega), if_neg (by omega)]
  have hv5 : ∀ j : Int, j ≠ m.rev → verB ps m.me j (bodyI old) old.tag = false := by
    intro j hj
    rw [hfa, if_neg (by omega), if_neg (by omega), if_neg (by omega)]
  have hr : ((m.rev.toNat : Nat) : Int) = m.rev := Int.toNat_of_nonneg r0
  have hr1 : ((rev1.toNat : Nat) : Int) = rev1 := Int.toNat_of_nonneg (by omega)
  refine ⟨hab, hac, hbc, ?_, ?_, ?_, ?_⟩
  · have hs : soldI m ps (bodyI fresh) fresh.tag = 12 := by
      unfold soldI
      rw [seek_zero _ _ _ _ _ (fun j hj => hv4 j (by omega)), if_pos (by omega)]
    unfold keyR
    rw [if_neg (by simp [hf]), if_neg (by omega), if_neg (by omega), if_pos (by rw [hs]; simp), hs]
    rfl
  · rw [key_sold m ps ⟨2, 1, rev1, q⟩ hfc hl (by show (2 : Int) ≠ 3; omega) r0 hv1, take_change m ⟨2, 1, rev1, q⟩ (by rw [w1, w2]; exact judge_new 1 (by omega)) rfl, if_neg (by show ¬ rev1 ≤ m.rev; omega), w1, w2]
  · have hs : soldI { m with rev := rev1, wh := takeH 0 1, wb := takeB 0 0 1, bad := 0 } ps (bodyI old) old.tag = 11 := by
      have hk : seek ps m.me (bodyI old) old.tag (rev1.toNat + 1) = (m.rev.toNat : Int) := seek_one ps m.me _ _ m.rev.toNat (by rw [hr]; exact hv3) _ (by omega) (fun j h1 h2 => hv5 j (by omega))
      unfold soldI
      show (if seek ps m.me (bodyI old) old.tag (rev1.toNat + 1) < 0 then (12 : Int) else if seek ps m.me (bodyI old) old.tag (rev1.toNat + 1) < rev1 then 11 else 0) = 11
      rw [hk, if_neg (by omega), if_pos (by omega)]
    unfold keyR
    rw [if_neg (by simp [ho]), if_neg (by show ¬ 0 < m.lock; omega), if_neg (by omega), if_pos (by rw [hs]; simp), hs]
  · have hk := key_sold { m with rev := rev1, wh := takeH 0 1, wb := takeB 0 0 1, bad := 0 } ps fresh hf hl (by omega) (by show 0 ≤ rev1; omega) hv2
    have hj : judgeI (takeH 0 1) (takeB 0 0 1) fresh.id = 0 := by rw [f2]; decide
    rw [hk, take_credit _ fresh hj f1, if_neg (by show ¬ m.cr + fresh.am > 99999999; omega)]
    exact ⟨rfl, rfl, by show m.cr + fresh.am = fresh.am; omega⟩
set_option maxHeartbeats 8000000 in
theorem walk (n : Nw) (cs : List Value) (tq : Int) (x : Tk) (xs : List Value) (y : Tk) (ys : List Value) (w : World) (hn : cs = n.cs.toList ∧ n.ok) (wt : (Lit.int .i64 tq).wf = true) (hx : xs = x.vals.toList ∧ x.ok) (hy : ys = y.vals.toList ∧ y.ok) :
    Calls Try.prog 12 #[.agg cs.toArray, .int .i64 tq, .agg xs.toArray, .agg ys.toArray] w fun e w' => e = .returned (.bool true) ∧ Below w.heap.size w w' := by
  obtain ⟨rfl, hn⟩ := hn
  obtain ⟨rfl, hx⟩ := hx
  obtain ⟨rfl, hy⟩ := hy
  obtain ⟨t0, t1⟩ := i64_bound wt
  clear wt
  rw [show n.cs.toList.toArray = n.cs by simp, show x.vals.toList.toArray = x.vals by simp, show y.vals.toList.toArray = y.vals by simp]
  have HN := Lib.hid (fun w => newMeter_any n w hn)
  obtain ⟨l0, _, _, l3⟩ := n.lim
  obtain ⟨rv, hrv⟩ : ∃ r, r = pk n.b 15 := ⟨_, rfl⟩
  obtain ⟨v0, v1⟩ := pk_bound n.b 15 (by omega)
  have HP1 := Lib.hid (fun w => picked_any n.b 15 w hn.2.1.1 hn.2.1.2 (by omega))
  rw [← hrv] at v0 v1 HP1
  obtain ⟨k, hk⟩ : ∃ k, k = pk tq (15 - rv) := ⟨_, rfl⟩
  obtain ⟨k0, k1⟩ := pk_bound tq (15 - rv) (by omega)
  have HP2 := Lib.hid (fun w => picked_any tq (15 - rv) w t0 t1 (by omega))
  rw [← hk] at k0 k1 HP2
  obtain ⟨rev1, hr1⟩ : ∃ r, r = rv + 1 + k := ⟨_, rfl⟩
  have j0 : rv < rev1 := by omega
  have j1 : rev1 ≤ 15 := by omega
  -- the tokens
  have hxo : ({ x with cl := 0 } : Tk).ok := ⟨⟨⟨by show -9223372036854775808 ≤ (0 : Int); omega, by show (0 : Int) ≤ 9223372036854775807; omega⟩, hx.1.2⟩, hx.2⟩
  have hyo : ({ y with cl := 0 } : Tk).ok := ⟨⟨⟨by show -9223372036854775808 ≤ (0 : Int); omega, by show (0 : Int) ≤ 9223372036854775807; omega⟩, hy.1.2⟩, hy.2⟩
  have HMX := Lib.hid (fun w => made_any { x with cl := 0 } w hxo)
  have HMY := Lib.hid (fun w => made_any { y with cl := 0 } w hyo)
  have gx := made_good { x with cl := 0 }
  have gy := made_good { y with cl := 0 }
  have cx : (madeT { x with cl := 0 }).cl = 0 := rfl
  have cy : (madeT { y with cl := 0 }).cl = 0 := rfl
  generalize madeT { x with cl := 0 } = ox at *
  generalize madeT { y with cl := 0 } = fx at *
  have small : ∀ (t : Tk) (i : Int), faultI t = 0 → (1 ≤ i ∧ i ≤ 1048575) → faultI { t with id := i } = 0 := by
    intro t i h hi
    obtain ⟨h0, _, h1⟩ := fault_ok h
    unfold faultI
    rw [if_pos (show clok ({ t with id := i } : Tk).cl from h0), if_pos ⟨hi, h1⟩]
  have go := small ox 2 gx (by omega)
  have gf := small fx 3 gy (by omega)
  have blim : ∀ t : Tk, faultI t = 0 → Orc.i64 (bodyI t) ∧ (0 ≤ bodyI t ∧ bodyI t ≤ 8796093022207) ∧ 0 ≤ t.tag ∧ t.tag ≤ 65535 := by
    intro t h
    obtain ⟨a, b, c⟩ := body_lim h
    exact ⟨a, ⟨b, c⟩, (fault_ok h).2.2.2⟩
  obtain ⟨ba1, ba2, ba3⟩ := blim _ go
  obtain ⟨bc1, bc2, bc3⟩ := blim _ gf
  have gc : faultI ⟨2, 1, rev1, 0⟩ = 0 := by
    unfold faultI
    rw [if_pos (show clok 2 from by decide), if_pos]
    exact ⟨⟨by show (1 : Int) ≤ 1; omega, by show (1 : Int) ≤ 1048575; omega⟩, ⟨by show (1 : Int) ≤ rev1; omega, by show rev1 ≤ 15; omega⟩, by show (0 : Int) ≤ 0; omega, by show (0 : Int) ≤ 65535; omega⟩
  obtain ⟨bb1, bb2, _⟩ := blim _ gc
  obtain ⟨m, hm⟩ : ∃ m : Mt, m = { n.mt with rev := rv, cr := 0 } := ⟨_, rfl⟩
  have HL := law m rev1 ox.tag 5 fx.tag { ox with id := 2 } { fx with id := 3 } (by rw [hm]; exact ⟨rfl, rfl⟩) (by rw [hm]; rfl) (by rw [hm]) (by rw [hm]; exact v0) (by rw [hm]; exact j0) j1 go gf cx rfl rfl cy rfl rfl (by omega) (by omega) _ rfl
  have hmc1 : m.c1 := by rw [hm]; exact ⟨l0, ⟨v0, by show rv ≤ 15; omega⟩, by show (0 : Int) ≤ 0; omega, by show (0 : Int) ≤ 99999999; omega⟩
  have hmc2 : m.c2 := by rw [hm]; exact ⟨l3, ⟨by show (0 : Int) ≤ 0; omega, by show (0 : Int) ≤ 30; omega⟩, fun h => by have h2 : (0 : Int) < 0 := h.2; omega⟩
  have hmw : wmay m.wh m.wb = true := by rw [hm]; rfl
  have hmb : m.wb < 18446744073709551616 := by rw [hm]; show (0 : Nat) < _; omega
  have hmm := mmay_of hmc1 hmc2 hmw
  have hmo := ok_of hmc1 hmc2 hmw hmb
  obtain ⟨tn, htn⟩ : ∃ t : Mt, t = { m with rev := rev1, wh := takeH 0 1, wb := takeB 0 0 1, bad := 0 } := ⟨_, rfl⟩
  rw [← htn] at HL
  have finv := (first_inv 1 (by omega) (by omega)).1
  have htc1 : tn.c1 := by rw [htn]; exact ⟨hmc1.1, ⟨by show 0 ≤ rev1; omega, j1⟩, hmc1.2.2⟩
  have htc2 : tn.c2 := by rw [htn]; exact ⟨⟨by show (0 : Int) ≤ 0; omega, by show (0 : Int) < 5; omega⟩, hmc2.2.1, fun h => by have h2 : (0 : Int) < 0 := h.1; omega⟩
  have htw : wmay tn.wh tn.wb = true := by rw [htn]; exact finv.may
  have htb : tn.wb < 18446744073709551616 := by rw [htn]; exact finv.lt
  have htm := mmay_of htc1 htc2 htw
  have hto := ok_of htc1 htc2 htw htb
  obtain ⟨hab, hac, hbc, hk1, hk2, hk3, hk4, hk5, hk6⟩ := HL
  have hbq : bodyI ⟨2, 1, rev1, 5⟩ = bodyI ⟨2, 1, rev1, 0⟩ := rfl
  rw [hbq] at hab hbc
  have h3 := three m.me m.rev rev1 (bodyI { ox with id := 2 }) (bodyI ⟨2, 1, rev1, 0⟩) (bodyI { fx with id := 3 }) ox.tag 5 fx.tag hab hac hbc
  obtain ⟨e1, f1, e2, f2, e3, f3⟩ := h3
  rw [← hbq] at e2 e3 f2 f3
  have wkm : ∀ b, 0 ≤ b ∧ b ≤ 8796093022207 → wok m.me m.rev b = true := fun b h => by unfold wok; exact decide_eq_true ⟨hmc1.1, hmc1.2.1, h.1, h.2⟩
  have wkt : ∀ b, 0 ≤ b ∧ b ≤ 8796093022207 → wok m.me rev1 b = true := fun b h => by unfold wok; exact decide_eq_true ⟨hmc1.1, ⟨by omega, j1⟩, h.1, h.2⟩
  have im : Orc.i64 m.me := ⟨by have := hmc1.1; omega, by have := hmc1.1; omega⟩
  have ir : Orc.i64 m.rev := ⟨by have := hmc1.2.1; omega, by have := hmc1.2.1; omega⟩
  have ir1 : Orc.i64 rev1 := ⟨by omega, by omega⟩
  have K1 := Kept.nil.step (by omega) (wkm _ ba2) im ir ba1 ba3.1 ba3.2
  have hI1 := fun w => issue_ok [] m.me m.rev (bodyI { ox with id := 2 }) ox.tag none 0 w ⟨by simp, fun h => absurd rfl h⟩ (by simp) Kept.nil.good (fun _ => ⟨rfl, rfl⟩) im ir ba1 (wkm _ ba2) ba3.1 ba3.2 (.inr (by simp))
  rw [show ({ ox with id := 2 } : Tk).tag = ox.tag from rfl] at K1
  rw [e1, f1] at hI1
  rw [e1] at K1
  generalize [(⟨m.me, m.rev, bodyI { ox with id := 2 }, ox.tag⟩ : Pr)] = L1 at *
  have K2 := K1.step (b := bodyI ⟨2, 1, rev1, 5⟩) (d := 5) (by omega) (wkm _ bb2) im ir bb1 (by omega) (by omega)
  have hI2 := fun A c w hr hn => issue_ok L1 m.me m.rev (bodyI ⟨2, 1, rev1, 5⟩) 5 A c w hr K1.ok K1.good hn im ir bb1 (wkm _ bb2) (by omega) (by omega) (.inr (by have := K1.len; omega))
  rw [e2, f2] at hI2
  rw [e2] at K2
  generalize [(⟨m.me, m.rev, bodyI { ox with id := 2 }, ox.tag⟩ : Pr), ⟨m.me, m.rev, bodyI ⟨2, 1, rev1, 5⟩, 5⟩] = L2 at *
  have K3 := K2.step (b := bodyI { fx with id := 3 }) (d := fx.tag) (by omega) (wkt _ bc2) im ir1 bc1 bc3.1 bc3.2
  have hI3 := fun A c w hr hn => issue_ok L2 m.me rev1 (bodyI { fx with id := 3 }) fx.tag A c w hr K2.ok K2.good hn im ir1 bc1 (wkt _ bc2) bc3.1 bc3.2 (.inr (by have := K2.len; omega))
  rw [e3, f3] at hI3
  rw [e3] at K3
  generalize [(⟨m.me, m.rev, bodyI { ox with id := 2 }, ox.tag⟩ : Pr), ⟨m.me, m.rev, bodyI ⟨2, 1, rev1, 5⟩, 5⟩, ⟨m.me, rev1, bodyI { fx with id := 3 }, fx.tag⟩] = L3 at *
  have hK1 := fun A c w hr => key_yes m L3 { fx with id := 3 } A c w hmo hmm hr K3.ok K3.good
  have hK2 := fun A c w hr => key_yes m L3 ⟨2, 1, rev1, 5⟩ A c w hmo hmm hr K3.ok K3.good
  have hK3 := fun A c w hr => key_yes tn L3 { ox with id := 2 } A c w hto htm hr K3.ok K3.good
  have hK4 := fun A c w hr => key_yes tn L3 { fx with id := 3 } A c w hto htm hr K3.ok K3.good
  have hB1 := fun w => body_any { ox with id := 2 } w
  have hB2 := fun w => body_any ⟨2, 1, rev1, 0⟩ w
  have hB3 := fun w => body_any { fx with id := 3 } w
  rw [go, if_pos rfl] at hB1
  rw [gc, if_pos rfl] at hB2
  rw [gf, if_pos rfl] at hB3
  rw [hk1] at hK1
  rw [hk2] at hK2
  rw [← hbq] at hB2
  generalize keyR tn L3 { ox with id := 2 } = R3 at *
  generalize keyR tn L3 { fx with id := 3 } = R4 at *
  obtain ⟨X, xad, xc⟩ := R3
  obtain ⟨Y, yad, yc⟩ := R4
  simp only at hk3 hk4 hk5 hk6
  generalize bodyI { ox with id := 2 } = ab at *
  generalize bodyI ⟨2, 1, rev1, 5⟩ = bb at *
  generalize bodyI { fx with id := 3 } = cb at *
  generalize badM m = Z at *
  have HI1 := Lib.hid hI1
  have HI2 := Lib.hid hI2
  have HI3 := Lib.hid hI3
  have HK1 := Lib.hid hK1
  have HK2 := Lib.hid hK2
  have HK3 := Lib.hid hK3
  have HK4 := Lib.hid hK4
  have HB1' := Lib.hid hB1
  have HB2' := Lib.hid hB2
  have HB3' := Lib.hid hB3
  have n1 : n.mt.wh = 0 := rfl
  have n2 : n.mt.wb = 0 := rfl
  have n3 : n.mt.lock = 0 := rfl
  have t1' : takeH 0 1 = 1 := by decide
  have t2' : takeB 0 0 1 = 1 := by decide
  rw [t1', t2'] at htn
  clear hI1 hI2 hI3 hK1 hK2 hK3 hK4 hB1 hB2 hB3 hk1 hk2 hab hac hbc hbq f1 f2 f3 e1 e2 e3 gx gy go gf gc small blim ba1 ba2 ba3 bb1 bb2 bc1 bc2 bc3 hmc1 hmc2 hmw hmb hmm hmo htc1 htc2 htw htb htm hto finv wkm wkt im ir ir1 K1 K2 K3 t0 t1 t1' t2' hxo hyo hrv hk hn hx hy
  generalize n.mt = nm at *
  obtain ⟨na, nb, nc, nd⟩ := n
  obtain ⟨me, r16, c16, wh, wb, bad, lock⟩ := nm
  obtain ⟨xc0, xi, xa, xt⟩ := x
  obtain ⟨yc0, yi, ya, yt⟩ := y
  obtain ⟨ocl, oid, oam, otag⟩ := ox
  obtain ⟨fcl, fid, fam, ftag⟩ := fx
  obtain ⟨Y0, Y1, Y2, Y3, Y4, Y5, Y6⟩ := Y
  simp only at *
  subst n1 n2 n3 cx cy hk3 hk4 hk5 hk6
  subst htn
  subst hm
  unfold Mt.vals Tk.vals Nw.cs at *
  simp only at *
  have wa : IntKind.i64.wrap (rv + 1) = rv + 1 := by rw [IntKind.wrap_i64]; omega
  have wb' : IntKind.i64.wrap (15 - rv) = 15 - rv := by rw [IntKind.wrap_i64]; omega
  have wc : IntKind.i64.wrap (rv + 1 + k) = rev1 := by rw [IntKind.wrap_i64]; omega
  have WA := Lib.hid wa
  have WB := Lib.hid wb'
  have WC := Lib.hid wc
  clear wa wb' wc hr1 l0 l3
  go_enter Try.func12, Try.ntmps12
  go_wp2_with (fail)
  go_at_call 24
  refine (HN.out _).mono ?_
  rintro e w1 ⟨rfl, hb⟩
  obtain ⟨bc, bf⟩ := bcell hb
  have hz1 := hb.size
  try simp at hz1
  have HB1 : Hid (Below w.heap.size w w1) := Lib.hid (below_then' (by repeat (first | with_reducible exact Below.refl _ _ | with_reducible refine blw_alloc ?_ _ | with_reducible refine Below.drew ?_ | with_reducible refine Below.setCell (p := ⟨_, _, none⟩) ?_ (by first | exact Nat.le_refl _ | (simp; done) | (simp; omega) | omega) _)) hb)
  have ln1 : w.heap.size < w1.heap.size := by omega
  have n1g0 : w1.cell? ⟨w.heap.size, 0, none⟩ = some (.int .i64 na) := by rw [bc _ _ (by first | omega | (simp <;> omega))]; first | with_reducible assumption | go_simp
  have n1g1 : w1.cell? ⟨w.heap.size, 1, none⟩ = some (.int .i64 nb) := by rw [bc _ _ (by first | omega | (simp <;> omega))]; first | with_reducible assumption | go_simp
  have n1g2 : w1.cell? ⟨w.heap.size, 2, none⟩ = some (.int .i64 nc) := by rw [bc _ _ (by first | omega | (simp <;> omega))]; first | with_reducible assumption | go_simp
  have n1g3 : w1.cell? ⟨w.heap.size, 3, none⟩ = some (.int .i64 nd) := by rw [bc _ _ (by first | omega | (simp <;> omega))]; first | with_reducible assumption | go_simp
  have lx1 : w.heap.size + 1 < w1.heap.size := by omega
  have x1g0 : w1.cell? ⟨w.heap.size + 1, 0, none⟩ = some (.int .i64 xc0) := by rw [bc _ _ (by first | omega | (simp <;> omega))]; first | with_reducible assumption | go_simp
  have x1f0 : w1.frozen? ⟨w.heap.size + 1, 0, none⟩ = false := by rw [bf _ _ (by first | omega | (simp <;> omega))]; first | with_reducible assumption | go_simp
  have x1g1 : w1.cell? ⟨w.heap.size + 1, 1, none⟩ = some (.int .i64 xi) := by rw [bc _ _ (by first | omega | (simp <;> omega))]; first | with_reducible assumption | go_simp
  have x1f1 : w1.frozen? ⟨w.heap.size + 1, 1, none⟩ = false := by rw [bf _ _ (by first | omega | (simp <;> omega))]; first | with_reducible assumption | go_simp
  have x1g2 : w1.cell? ⟨w.heap.size + 1, 2, none⟩ = some (.int .i64 xa) := by rw [bc _ _ (by first | omega | (simp <;> omega))]; first | with_reducible assumption | go_simp
  have x1f2 : w1.frozen? ⟨w.heap.size + 1, 2, none⟩ = false := by rw [bf _ _ (by first | omega | (simp <;> omega))]; first | with_reducible assumption | go_simp
  have x1g3 : w1.cell? ⟨w.heap.size + 1, 3, none⟩ = some (.int .i64 xt) := by rw [bc _ _ (by first | omega | (simp <;> omega))]; first | with_reducible assumption | go_simp
  have x1f3 : w1.frozen? ⟨w.heap.size + 1, 3, none⟩ = false := by rw [bf _ _ (by first | omega | (simp <;> omega))]; first | with_reducible assumption | go_simp
  have ly1 : w.heap.size + 1 + 1 < w1.heap.size := by omega
  have y1g0 : w1.cell? ⟨w.heap.size + 1 + 1, 0, none⟩ = some (.int .i64 yc0) := by rw [bc _ _ (by first | omega | (simp <;> omega))]; first | with_reducible assumption | go_simp
  have y1f0 : w1.frozen? ⟨w.heap.size + 1 + 1, 0, none⟩ = false := by rw [bf _ _ (by first | omega | (simp <;> omega))]; first | with_reducible assumption | go_simp
  have y1g1 : w1.cell? ⟨w.heap.size + 1 + 1, 1, none⟩ = some (.int .i64 yi) := by rw [bc _ _ (by first | omega | (simp <;> omega))]; first | with_reducible assumption | go_simp
  have y1f1 : w1.frozen? ⟨w.heap.size + 1 + 1, 1, none⟩ = false := by rw [bf _ _ (by first | omega | (simp <;> omega))]; first | with_reducible assumption | go_simp
  have y1g2 : w1.cell? ⟨w.heap.size + 1 + 1, 2, none⟩ = some (.int .i64 ya) := by rw [bc _ _ (by first | omega | (simp <;> omega))]; first | with_reducible assumption | go_simp
  have y1f2 : w1.frozen? ⟨w.heap.size + 1 + 1, 2, none⟩ = false := by rw [bf _ _ (by first | omega | (simp <;> omega))]; first | with_reducible assumption | go_simp
  have y1g3 : w1.cell? ⟨w.heap.size + 1 + 1, 3, none⟩ = some (.int .i64 yt) := by rw [bc _ _ (by first | omega | (simp <;> omega))]; first | with_reducible assumption | go_simp
  have y1f3 : w1.frozen? ⟨w.heap.size + 1 + 1, 3, none⟩ = false := by rw [bf _ _ (by first | omega | (simp <;> omega))]; first | with_reducible assumption | go_simp
  clear hb bc bf 
  go_wp2_with (fail)
  go_at_call 19
  refine (HP1.out _).mono ?_
  rintro e w' ⟨rfl, rfl⟩
  go_wp2
  go_region_held3 (fun w' => w'.cell? ⟨w1.heap.size, 1, none⟩ = some (.int .i64 rv)) (go_keep) ((go_at_call 19; rw [WB.out]; refine (HP2.out _).mono ?_; rintro e w' ⟨rfl, rfl⟩))
  all_goals
    rw [WA.out, WC.out]
    have ltm0 : w.heap.size + 1 < w1.heap.size + 1 := by omega
    have na0 : w.heap.size ≠ w1.heap.size := by omega
    have na1 : w.heap.size + 1 ≠ w1.heap.size := by omega
    have na2 : w.heap.size + 1 + 1 ≠ w1.heap.size := by omega
    have na3 : w1.heap.size ≠ w.heap.size := by omega
    have na4 : w1.heap.size ≠ w.heap.size + 1 := by omega
    have na5 : w1.heap.size ≠ w.heap.size + 1 + 1 := by omega
    go_wp2_with (fail)
    go_at_call 26
    refine (HMX.out _).mono ?_
    rintro e w2 ⟨rfl, hb⟩
    obtain ⟨bc, bf⟩ := bcell hb
    have hz2 := hb.size
    try simp at hz2
    have HB2 : Hid (Below w.heap.size w w2) := Lib.hid (below_then' (by repeat (first | with_reducible exact HB1.out | with_reducible refine blw_alloc ?_ _ | with_reducible refine Below.drew ?_ | with_reducible refine Below.setCell (p := ⟨_, _, none⟩) ?_ (by first | exact Nat.le_refl _ | (simp; done) | (simp; omega) | omega) _)) hb)
    have ly2 : w.heap.size + 1 + 1 < w2.heap.size := by omega
    have y2g0 : w2.cell? ⟨w.heap.size + 1 + 1, 0, none⟩ = some (.int .i64 0) := by rw [bc _ _ (by first | omega | (simp <;> omega))]; first | with_reducible assumption | go_simp
    have y2g1 : w2.cell? ⟨w.heap.size + 1 + 1, 1, none⟩ = some (.int .i64 yi) := by rw [bc _ _ (by first | omega | (simp <;> omega))]; first | with_reducible assumption | go_simp
    have y2g2 : w2.cell? ⟨w.heap.size + 1 + 1, 2, none⟩ = some (.int .i64 ya) := by rw [bc _ _ (by first | omega | (simp <;> omega))]; first | with_reducible assumption | go_simp
    have y2g3 : w2.cell? ⟨w.heap.size + 1 + 1, 3, none⟩ = some (.int .i64 yt) := by rw [bc _ _ (by first | omega | (simp <;> omega))]; first | with_reducible assumption | go_simp
    have lm2 : w1.heap.size < w2.heap.size := by omega
    have m2g0 : w2.cell? ⟨w1.heap.size, 0, none⟩ = some (.int .i64 me) := by rw [bc _ _ (by first | omega | (simp <;> omega))]; first | with_reducible assumption | go_simp
    have m2g1 : w2.cell? ⟨w1.heap.size, 1, none⟩ = some (.int .i64 rv) := by rw [bc _ _ (by first | omega | (simp <;> omega))]; first | with_reducible assumption | go_simp
    have m2g2 : w2.cell? ⟨w1.heap.size, 2, none⟩ = some (.int .i64 0) := by rw [bc _ _ (by first | omega | (simp <;> omega))]; first | with_reducible assumption | go_simp
    have m2g3 : w2.cell? ⟨w1.heap.size, 3, none⟩ = some (.int .i64 0) := by rw [bc _ _ (by first | omega | (simp <;> omega))]; first | with_reducible assumption | go_simp
    have m2g4 : w2.cell? ⟨w1.heap.size, 4, none⟩ = some (.int .u64 0) := by rw [bc _ _ (by first | omega | (simp <;> omega))]; first | with_reducible assumption | go_simp
    have m2g5 : w2.cell? ⟨w1.heap.size, 5, none⟩ = some (.int .i64 bad) := by rw [bc _ _ (by first | omega | (simp <;> omega))]; first | with_reducible assumption | go_simp
    have m2g6 : w2.cell? ⟨w1.heap.size, 6, none⟩ = some (.int .i64 0) := by rw [bc _ _ (by first | omega | (simp <;> omega))]; first | with_reducible assumption | go_simp
    clear hb bc bf n1g0 n1g1 n1g2 n1g3 x1g0 x1g1 x1g2 x1g3 x1f0 x1f1 x1f2 x1f3 y1g0 y1g1 y1g2 y1g3 y1f0 y1f1 y1f2 y1f3
    go_wp2_with (fail)
    go_at_call 26
    refine (HMY.out _).mono ?_
    rintro e w3 ⟨rfl, hb⟩
    obtain ⟨bc, bf⟩ := bcell hb
    have hz3 := hb.size
    try simp at hz3
    have HB3 : Hid (Below w.heap.size w w3) := Lib.hid (below_then' (by repeat (first | with_reducible exact HB2.out | with_reducible refine blw_alloc ?_ _ | with_reducible refine Below.drew ?_ | with_reducible refine Below.setCell (p := ⟨_, _, none⟩) ?_ (by first | exact Nat.le_refl _ | (simp; done) | (simp; omega) | omega) _)) hb)
    have lm3 : w1.heap.size < w3.heap.size := by omega
    have m3g0 : w3.cell? ⟨w1.heap.size, 0, none⟩ = some (.int .i64 me) := by rw [bc _ _ (by first | omega | (simp <;> omega))]; first | with_reducible assumption | go_simp
    have m3g1 : w3.cell? ⟨w1.heap.size, 1, none⟩ = some (.int .i64 rv) := by rw [bc _ _ (by first | omega | (simp <;> omega))]; first | with_reducible assumption | go_simp
    have m3g2 : w3.cell? ⟨w1.heap.size, 2, none⟩ = some (.int .i64 0) := by rw [bc _ _ (by first | omega | (simp <;> omega))]; first | with_reducible assumption | go_simp
    have m3g3 : w3.cell? ⟨w1.heap.size, 3, none⟩ = some (.int .i64 0) := by rw [bc _ _ (by first | omega | (simp <;> omega))]; first | with_reducible assumption | go_simp
    have m3g4 : w3.cell? ⟨w1.heap.size, 4, none⟩ = some (.int .u64 0) := by rw [bc _ _ (by first | omega | (simp <;> omega))]; first | with_reducible assumption | go_simp
    have m3g5 : w3.cell? ⟨w1.heap.size, 5, none⟩ = some (.int .i64 bad) := by rw [bc _ _ (by first | omega | (simp <;> omega))]; first | with_reducible assumption | go_simp
    have m3g6 : w3.cell? ⟨w1.heap.size, 6, none⟩ = some (.int .i64 0) := by rw [bc _ _ (by first | omega | (simp <;> omega))]; first | with_reducible assumption | go_simp
    have lo3 : w2.heap.size < w3.heap.size := by omega
    have o3g0 : w3.cell? ⟨w2.heap.size, 0, none⟩ = some (.int .i64 0) := by rw [bc _ _ (by first | omega | (simp <;> omega))]; first | with_reducible assumption | go_simp
    have o3f0 : w3.frozen? ⟨w2.heap.size, 0, none⟩ = false := by rw [bf _ _ (by first | omega | (simp <;> omega))]; first | with_reducible assumption | go_simp
    have o3g1 : w3.cell? ⟨w2.heap.size, 1, none⟩ = some (.int .i64 oid) := by rw [bc _ _ (by first | omega | (simp <;> omega))]; first | with_reducible assumption | go_simp
    have o3f1 : w3.frozen? ⟨w2.heap.size, 1, none⟩ = false := by rw [bf _ _ (by first | omega | (simp <;> omega))]; first | with_reducible assumption | go_simp
    have o3g2 : w3.cell? ⟨w2.heap.size, 2, none⟩ = some (.int .i64 oam) := by rw [bc _ _ (by first | omega | (simp <;> omega))]; first | with_reducible assumption | go_simp
    have o3f2 : w3.frozen? ⟨w2.heap.size, 2, none⟩ = false := by rw [bf _ _ (by first | omega | (simp <;> omega))]; first | with_reducible assumption | go_simp
    have o3g3 : w3.cell? ⟨w2.heap.size, 3, none⟩ = some (.int .i64 otag) := by rw [bc _ _ (by first | omega | (simp <;> omega))]; first | with_reducible assumption | go_simp
    have o3f3 : w3.frozen? ⟨w2.heap.size, 3, none⟩ = false := by rw [bf _ _ (by first | omega | (simp <;> omega))]; first | with_reducible assumption | go_simp
    clear hb bc bf y2g0 y2g1 y2g2 y2g3 m2g0 m2g1 m2g2 m2g3 m2g4 m2g5 m2g6
    go_wp2_with (fail)
    go_at_call 27
    refine (HB1'.out _).mono ?_
    rintro e w4 ⟨rfl, hb⟩
    obtain ⟨bc, bf⟩ := bcell hb
    have hz4 := hb.size
    try simp at hz4
    have HB4 : Hid (Below w.heap.size w w4) := Lib.hid (below_then' (by repeat (first | with_reducible exact HB3.out | with_reducible refine blw_alloc ?_ _ | with_reducible refine Below.drew ?_ | with_reducible refine Below.setCell (p := ⟨_, _, none⟩) ?_ (by first | exact Nat.le_refl _ | (simp; done) | (simp; omega) | omega) _)) hb)
    have lm4 : w1.heap.size < w4.heap.size := by omega
    have m4g0 : w4.cell? ⟨w1.heap.size, 0, none⟩ = some (.int .i64 me) := by rw [bc _ _ (by first | omega | (simp <;> omega))]; first | with_reducible assumption | go_simp
    have m4g1 : w4.cell? ⟨w1.heap.size, 1, none⟩ = some (.int .i64 rv) := by rw [bc _ _ (by first | omega | (simp <;> omega))]; first | with_reducible assumption | go_simp
    have m4g2 : w4.cell? ⟨w1.heap.size, 2, none⟩ = some (.int .i64 0) := by rw [bc _ _ (by first | omega | (simp <;> omega))]; first | with_reducible assumption | go_simp
    have m4g3 : w4.cell? ⟨w1.heap.size, 3, none⟩ = some (.int .i64 0) := by rw [bc _ _ (by first | omega | (simp <;> omega))]; first | with_reducible assumption | go_simp
    have m4g4 : w4.cell? ⟨w1.heap.size, 4, none⟩ = some (.int .u64 0) := by rw [bc _ _ (by first | omega | (simp <;> omega))]; first | with_reducible assumption | go_simp
    have m4g5 : w4.cell? ⟨w1.heap.size, 5, none⟩ = some (.int .i64 bad) := by rw [bc _ _ (by first | omega | (simp <;> omega))]; first | with_reducible assumption | go_simp
    have m4g6 : w4.cell? ⟨w1.heap.size, 6, none⟩ = some (.int .i64 0) := by rw [bc _ _ (by first | omega | (simp <;> omega))]; first | with_reducible assumption | go_simp
    have lo4 : w2.heap.size < w4.heap.size := by omega
    have o4g0 : w4.cell? ⟨w2.heap.size, 0, none⟩ = some (.int .i64 0) := by rw [bc _ _ (by first | omega | (simp <;> omega))]; first | with_reducible assumption | go_simp
    have o4f0 : w4.frozen? ⟨w2.heap.size, 0, none⟩ = false := by rw [bf _ _ (by first | omega | (simp <;> omega))]; first | with_reducible assumption | go_simp
    have o4g1 : w4.cell? ⟨w2.heap.size, 1, none⟩ = some (.int .i64 2) := by rw [bc _ _ (by first | omega | (simp <;> omega))]; first | with_reducible assumption | go_simp
    have o4f1 : w4.frozen? ⟨w2.heap.size, 1, none⟩ = false := by rw [bf _ _ (by first | omega | (simp <;> omega))]; first | with_reducible assumption | go_simp
    have o4g2 : w4.cell? ⟨w2.heap.size, 2, none⟩ = some (.int .i64 oam) := by rw [bc _ _ (by first | omega | (simp <;> omega))]; first | with_reducible assumption | go_simp
    have o4f2 : w4.frozen? ⟨w2.heap.size, 2, none⟩ = false := by rw [bf _ _ (by first | omega | (simp <;> omega))]; first | with_reducible assumption | go_simp
    have o4g3 : w4.cell? ⟨w2.heap.size, 3, none⟩ = some (.int .i64 otag) := by rw [bc _ _ (by first | omega | (simp <;> omega))]; first | with_reducible assumption | go_simp
    have o4f3 : w4.frozen? ⟨w2.heap.size, 3, none⟩ = false := by rw [bf _ _ (by first | omega | (simp <;> omega))]; first | with_reducible assumption | go_simp
    have lf4 : w3.heap.size < w4.heap.size := by omega
    have f4g0 : w4.cell? ⟨w3.heap.size, 0, none⟩ = some (.int .i64 0) := by rw [bc _ _ (by first | omega | (simp <;> omega))]; first | with_reducible assumption | go_simp
    have f4f0 : w4.frozen? ⟨w3.heap.size, 0, none⟩ = false := by rw [bf _ _ (by first | omega | (simp <;> omega))]; first | with_reducible assumption | go_simp
    have f4g1 : w4.cell? ⟨w3.heap.size, 1, none⟩ = some (.int .i64 3) := by rw [bc _ _ (by first | omega | (simp <;> omega))]; first | with_reducible assumption | go_simp
    have f4f1 : w4.frozen? ⟨w3.heap.size, 1, none⟩ = false := by rw [bf _ _ (by first | omega | (simp <;> omega))]; first | with_reducible assumption | go_simp
    have f4g2 : w4.cell? ⟨w3.heap.size, 2, none⟩ = some (.int .i64 Y2) := by rw [bc _ _ (by first | omega | (simp <;> omega))]; first | with_reducible assumption | go_simp
    have f4f2 : w4.frozen? ⟨w3.heap.size, 2, none⟩ = false := by rw [bf _ _ (by first | omega | (simp <;> omega))]; first | with_reducible assumption | go_simp
    have f4g3 : w4.cell? ⟨w3.heap.size, 3, none⟩ = some (.int .i64 ftag) := by rw [bc _ _ (by first | omega | (simp <;> omega))]; first | with_reducible assumption | go_simp
    have f4f3 : w4.frozen? ⟨w3.heap.size, 3, none⟩ = false := by rw [bf _ _ (by first | omega | (simp <;> omega))]; first | with_reducible assumption | go_simp
    have lc4 : w3.heap.size + 1 < w4.heap.size := by omega
    have c4g0 : w4.cell? ⟨w3.heap.size + 1, 0, none⟩ = some (.int .i64 2) := by rw [bc _ _ (by first | omega | (simp <;> omega))]; first | with_reducible assumption | go_simp
    have c4f0 : w4.frozen? ⟨w3.heap.size + 1, 0, none⟩ = false := by rw [bf _ _ (by first | omega | (simp <;> omega))]; first | with_reducible assumption | go_simp
    have c4g1 : w4.cell? ⟨w3.heap.size + 1, 1, none⟩ = some (.int .i64 1) := by rw [bc _ _ (by first | omega | (simp <;> omega))]; first | with_reducible assumption | go_simp
    have c4f1 : w4.frozen? ⟨w3.heap.size + 1, 1, none⟩ = false := by rw [bf _ _ (by first | omega | (simp <;> omega))]; first | with_reducible assumption | go_simp
    have c4g2 : w4.cell? ⟨w3.heap.size + 1, 2, none⟩ = some (.int .i64 rev1) := by rw [bc _ _ (by first | omega | (simp <;> omega))]; first | with_reducible assumption | go_simp
    have c4f2 : w4.frozen? ⟨w3.heap.size + 1, 2, none⟩ = false := by rw [bf _ _ (by first | omega | (simp <;> omega))]; first | with_reducible assumption | go_simp
    have c4g3 : w4.cell? ⟨w3.heap.size + 1, 3, none⟩ = some (.int .i64 0) := by rw [bc _ _ (by first | omega | (simp <;> omega))]; first | with_reducible assumption | go_simp
    have c4f3 : w4.frozen? ⟨w3.heap.size + 1, 3, none⟩ = false := by rw [bf _ _ (by first | omega | (simp <;> omega))]; first | with_reducible assumption | go_simp
    clear hb bc bf m3g0 m3g1 m3g2 m3g3 m3g4 m3g5 m3g6 o3g0 o3g1 o3g2 o3g3 o3f0 o3f1 o3f2 o3f3
    go_wp2_with (fail)
    go_at_call 27
    refine (HB2'.out _).mono ?_
    rintro e w5 ⟨rfl, hb⟩
    obtain ⟨bc, bf⟩ := bcell hb
    have hz5 := hb.size
    try simp at hz5
    have HB5 : Hid (Below w.heap.size w w5) := Lib.hid (below_then' (by repeat (first | with_reducible exact HB4.out | with_reducible refine blw_alloc ?_ _ | with_reducible refine Below.drew ?_ | with_reducible refine Below.setCell (p := ⟨_, _, none⟩) ?_ (by first | exact Nat.le_refl _ | (simp; done) | (simp; omega) | omega) _)) hb)
    have lm5 : w1.heap.size < w5.heap.size := by omega
    have m5g0 : w5.cell? ⟨w1.heap.size, 0, none⟩ = some (.int .i64 me) := by rw [bc _ _ (by first | omega | (simp <;> omega))]; first | with_reducible assumption | go_simp
    have m5g1 : w5.cell? ⟨w1.heap.size, 1, none⟩ = some (.int .i64 rv) := by rw [bc _ _ (by first | omega | (simp <;> omega))]; first | with_reducible assumption | go_simp
    have m5g2 : w5.cell? ⟨w1.heap.size, 2, none⟩ = some (.int .i64 0) := by rw [bc _ _ (by first | omega | (simp <;> omega))]; first | with_reducible assumption | go_simp
    have m5g3 : w5.cell? ⟨w1.heap.size, 3, none⟩ = some (.int .i64 0) := by rw [bc _ _ (by first | omega | (simp <;> omega))]; first | with_reducible assumption | go_simp
    have m5g4 : w5.cell? ⟨w1.heap.size, 4, none⟩ = some (.int .u64 0) := by rw [bc _ _ (by first | omega | (simp <;> omega))]; first | with_reducible assumption | go_simp
    have m5g5 : w5.cell? ⟨w1.heap.size, 5, none⟩ = some (.int .i64 bad) := by rw [bc _ _ (by first | omega | (simp <;> omega))]; first | with_reducible assumption | go_simp
    have m5g6 : w5.cell? ⟨w1.heap.size, 6, none⟩ = some (.int .i64 0) := by rw [bc _ _ (by first | omega | (simp <;> omega))]; first | with_reducible assumption | go_simp
    have lo5 : w2.heap.size < w5.heap.size := by omega
    have o5g0 : w5.cell? ⟨w2.heap.size, 0, none⟩ = some (.int .i64 0) := by rw [bc _ _ (by first | omega | (simp <;> omega))]; first | with_reducible assumption | go_simp
    have o5f0 : w5.frozen? ⟨w2.heap.size, 0, none⟩ = false := by rw [bf _ _ (by first | omega | (simp <;> omega))]; first | with_reducible assumption | go_simp
    have o5g1 : w5.cell? ⟨w2.heap.size, 1, none⟩ = some (.int .i64 2) := by rw [bc _ _ (by first | omega | (simp <;> omega))]; first | with_reducible assumption | go_simp
    have o5f1 : w5.frozen? ⟨w2.heap.size, 1, none⟩ = false := by rw [bf _ _ (by first | omega | (simp <;> omega))]; first | with_reducible assumption | go_simp
    have o5g2 : w5.cell? ⟨w2.heap.size, 2, none⟩ = some (.int .i64 oam) := by rw [bc _ _ (by first | omega | (simp <;> omega))]; first | with_reducible assumption | go_simp
    have o5f2 : w5.frozen? ⟨w2.heap.size, 2, none⟩ = false := by rw [bf _ _ (by first | omega | (simp <;> omega))]; first | with_reducible assumption | go_simp
    have o5g3 : w5.cell? ⟨w2.heap.size, 3, none⟩ = some (.int .i64 otag) := by rw [bc _ _ (by first | omega | (simp <;> omega))]; first | with_reducible assumption | go_simp
    have o5f3 : w5.frozen? ⟨w2.heap.size, 3, none⟩ = false := by rw [bf _ _ (by first | omega | (simp <;> omega))]; first | with_reducible assumption | go_simp
    have lf5 : w3.heap.size < w5.heap.size := by omega
    have f5g0 : w5.cell? ⟨w3.heap.size, 0, none⟩ = some (.int .i64 0) := by rw [bc _ _ (by first | omega | (simp <;> omega))]; first | with_reducible assumption | go_simp
    have f5f0 : w5.frozen? ⟨w3.heap.size, 0, none⟩ = false := by rw [bf _ _ (by first | omega | (simp <;> omega))]; first | with_reducible assumption | go_simp
    have f5g1 : w5.cell? ⟨w3.heap.size, 1, none⟩ = some (.int .i64 3) := by rw [bc _ _ (by first | omega | (simp <;> omega))]; first | with_reducible assumption | go_simp
    have f5f1 : w5.frozen? ⟨w3.heap.size, 1, none⟩ = false := by rw [bf _ _ (by first | omega | (simp <;> omega))]; first | with_reducible assumption | go_simp
    have f5g2 : w5.cell? ⟨w3.heap.size, 2, none⟩ = some (.int .i64 Y2) := by rw [bc _ _ (by first | omega | (simp <;> omega))]; first | with_reducible assumption | go_simp
    have f5f2 : w5.frozen? ⟨w3.heap.size, 2, none⟩ = false := by rw [bf _ _ (by first | omega | (simp <;> omega))]; first | with_reducible assumption | go_simp
    have f5g3 : w5.cell? ⟨w3.heap.size, 3, none⟩ = some (.int .i64 ftag) := by rw [bc _ _ (by first | omega | (simp <;> omega))]; first | with_reducible assumption | go_simp
    have f5f3 : w5.frozen? ⟨w3.heap.size, 3, none⟩ = false := by rw [bf _ _ (by first | omega | (simp <;> omega))]; first | with_reducible assumption | go_simp
    have lc5 : w3.heap.size + 1 < w5.heap.size := by omega
    have c5g0 : w5.cell? ⟨w3.heap.size + 1, 0, none⟩ = some (.int .i64 2) := by rw [bc _ _ (by first | omega | (simp <;> omega))]; first | with_reducible assumption | go_simp
    have c5f0 : w5.frozen? ⟨w3.heap.size + 1, 0, none⟩ = false := by rw [bf _ _ (by first | omega | (simp <;> omega))]; first | with_reducible assumption | go_simp
    have c5g1 : w5.cell? ⟨w3.heap.size + 1, 1, none⟩ = some (.int .i64 1) := by rw [bc _ _ (by first | omega | (simp <;> omega))]; first | with_reducible assumption | go_simp
    have c5f1 : w5.frozen? ⟨w3.heap.size + 1, 1, none⟩ = false := by rw [bf _ _ (by first | omega | (simp <;> omega))]; first | with_reducible assumption | go_simp
    have c5g2 : w5.cell? ⟨w3.heap.size + 1, 2, none⟩ = some (.int .i64 rev1) := by rw [bc _ _ (by first | omega | (simp <;> omega))]; first | with_reducible assumption | go_simp
    have c5f2 : w5.frozen? ⟨w3.heap.size + 1, 2, none⟩ = false := by rw [bf _ _ (by first | omega | (simp <;> omega))]; first | with_reducible assumption | go_simp
    have c5g3 : w5.cell? ⟨w3.heap.size + 1, 3, none⟩ = some (.int .i64 0) := by rw [bc _ _ (by first | omega | (simp <;> omega))]; first | with_reducible assumption | go_simp
    have c5f3 : w5.frozen? ⟨w3.heap.size + 1, 3, none⟩ = false := by rw [bf _ _ (by first | omega | (simp <;> omega))]; first | with_reducible assumption | go_simp
    clear hb bc bf m4g0 m4g1 m4g2 m4g3 m4g4 m4g5 m4g6 o4g0 o4g1 o4g2 o4g3 o4f0 o4f1 o4f2 o4f3 f4g0 f4g1 f4g2 f4g3 f4f0 f4f1 f4f2 f4f3 c4g0 c4g1 c4g2 c4g3 c4f0 c4f1 c4f2 c4f3
    go_wp2_with (fail)
    go_at_call 27
    refine (HB3'.out _).mono ?_
    rintro e w6 ⟨rfl, hb⟩
    obtain ⟨bc, bf⟩ := bcell hb
    have hz6 := hb.size
    try simp at hz6
    have HB6 : Hid (Below w.heap.size w w6) := Lib.hid (below_then' (by repeat (first | with_reducible exact HB5.out | with_reducible refine blw_alloc ?_ _ | with_reducible refine Below.drew ?_ | with_reducible refine Below.setCell (p := ⟨_, _, none⟩) ?_ (by first | exact Nat.le_refl _ | (simp; done) | (simp; omega) | omega) _)) hb)
    have lm6 : w1.heap.size < w6.heap.size := by omega
    have m6g0 : w6.cell? ⟨w1.heap.size, 0, none⟩ = some (.int .i64 me) := by rw [bc _ _ (by first | omega | (simp <;> omega))]; first | with_reducible assumption | go_simp
    have m6g1 : w6.cell? ⟨w1.heap.size, 1, none⟩ = some (.int .i64 rv) := by rw [bc _ _ (by first | omega | (simp <;> omega))]; first | with_reducible assumption | go_simp
    have m6g2 : w6.cell? ⟨w1.heap.size, 2, none⟩ = some (.int .i64 0) := by rw [bc _ _ (by first | omega | (simp <;> omega))]; first | with_reducible assumption | go_simp
    have m6g3 : w6.cell? ⟨w1.heap.size, 3, none⟩ = some (.int .i64 0) := by rw [bc _ _ (by first | omega | (simp <;> omega))]; first | with_reducible assumption | go_simp
    have m6g4 : w6.cell? ⟨w1.heap.size, 4, none⟩ = some (.int .u64 0) := by rw [bc _ _ (by first | omega | (simp <;> omega))]; first | with_reducible assumption | go_simp
    have m6g5 : w6.cell? ⟨w1.heap.size, 5, none⟩ = some (.int .i64 bad) := by rw [bc _ _ (by first | omega | (simp <;> omega))]; first | with_reducible assumption | go_simp
    have m6g6 : w6.cell? ⟨w1.heap.size, 6, none⟩ = some (.int .i64 0) := by rw [bc _ _ (by first | omega | (simp <;> omega))]; first | with_reducible assumption | go_simp
    have lo6 : w2.heap.size < w6.heap.size := by omega
    have o6g0 : w6.cell? ⟨w2.heap.size, 0, none⟩ = some (.int .i64 0) := by rw [bc _ _ (by first | omega | (simp <;> omega))]; first | with_reducible assumption | go_simp
    have o6f0 : w6.frozen? ⟨w2.heap.size, 0, none⟩ = false := by rw [bf _ _ (by first | omega | (simp <;> omega))]; first | with_reducible assumption | go_simp
    have o6g1 : w6.cell? ⟨w2.heap.size, 1, none⟩ = some (.int .i64 2) := by rw [bc _ _ (by first | omega | (simp <;> omega))]; first | with_reducible assumption | go_simp
    have o6f1 : w6.frozen? ⟨w2.heap.size, 1, none⟩ = false := by rw [bf _ _ (by first | omega | (simp <;> omega))]; first | with_reducible assumption | go_simp
    have o6g2 : w6.cell? ⟨w2.heap.size, 2, none⟩ = some (.int .i64 oam) := by rw [bc _ _ (by first | omega | (simp <;> omega))]; first | with_reducible assumption | go_simp
    have o6f2 : w6.frozen? ⟨w2.heap.size, 2, none⟩ = false := by rw [bf _ _ (by first | omega | (simp <;> omega))]; first | with_reducible assumption | go_simp
    have o6g3 : w6.cell? ⟨w2.heap.size, 3, none⟩ = some (.int .i64 otag) := by rw [bc _ _ (by first | omega | (simp <;> omega))]; first | with_reducible assumption | go_simp
    have o6f3 : w6.frozen? ⟨w2.heap.size, 3, none⟩ = false := by rw [bf _ _ (by first | omega | (simp <;> omega))]; first | with_reducible assumption | go_simp
    have lf6 : w3.heap.size < w6.heap.size := by omega
    have f6g0 : w6.cell? ⟨w3.heap.size, 0, none⟩ = some (.int .i64 0) := by rw [bc _ _ (by first | omega | (simp <;> omega))]; first | with_reducible assumption | go_simp
    have f6f0 : w6.frozen? ⟨w3.heap.size, 0, none⟩ = false := by rw [bf _ _ (by first | omega | (simp <;> omega))]; first | with_reducible assumption | go_simp
    have f6g1 : w6.cell? ⟨w3.heap.size, 1, none⟩ = some (.int .i64 3) := by rw [bc _ _ (by first | omega | (simp <;> omega))]; first | with_reducible assumption | go_simp
    have f6f1 : w6.frozen? ⟨w3.heap.size, 1, none⟩ = false := by rw [bf _ _ (by first | omega | (simp <;> omega))]; first | with_reducible assumption | go_simp
    have f6g2 : w6.cell? ⟨w3.heap.size, 2, none⟩ = some (.int .i64 Y2) := by rw [bc _ _ (by first | omega | (simp <;> omega))]; first | with_reducible assumption | go_simp
    have f6f2 : w6.frozen? ⟨w3.heap.size, 2, none⟩ = false := by rw [bf _ _ (by first | omega | (simp <;> omega))]; first | with_reducible assumption | go_simp
    have f6g3 : w6.cell? ⟨w3.heap.size, 3, none⟩ = some (.int .i64 ftag) := by rw [bc _ _ (by first | omega | (simp <;> omega))]; first | with_reducible assumption | go_simp
    have f6f3 : w6.frozen? ⟨w3.heap.size, 3, none⟩ = false := by rw [bf _ _ (by first | omega | (simp <;> omega))]; first | with_reducible assumption | go_simp
    have lc6 : w3.heap.size + 1 < w6.heap.size := by omega
    have c6g0 : w6.cell? ⟨w3.heap.size + 1, 0, none⟩ = some (.int .i64 2) := by rw [bc _ _ (by first | omega | (simp <;> omega))]; first | with_reducible assumption | go_simp
    have c6f0 : w6.frozen? ⟨w3.heap.size + 1, 0, none⟩ = false := by rw [bf _ _ (by first | omega | (simp <;> omega))]; first | with_reducible assumption | go_simp
    have c6g1 : w6.cell? ⟨w3.heap.size + 1, 1, none⟩ = some (.int .i64 1) := by rw [bc _ _ (by first | omega | (simp <;> omega))]; first | with_reducible assumption | go_simp
    have c6f1 : w6.frozen? ⟨w3.heap.size + 1, 1, none⟩ = false := by rw [bf _ _ (by first | omega | (simp <;> omega))]; first | with_reducible assumption | go_simp
    have c6g2 : w6.cell? ⟨w3.heap.size + 1, 2, none⟩ = some (.int .i64 rev1) := by rw [bc _ _ (by first | omega | (simp <;> omega))]; first | with_reducible assumption | go_simp
    have c6f2 : w6.frozen? ⟨w3.heap.size + 1, 2, none⟩ = false := by rw [bf _ _ (by first | omega | (simp <;> omega))]; first | with_reducible assumption | go_simp
    have c6g3 : w6.cell? ⟨w3.heap.size + 1, 3, none⟩ = some (.int .i64 0) := by rw [bc _ _ (by first | omega | (simp <;> omega))]; first | with_reducible assumption | go_simp
    have c6f3 : w6.frozen? ⟨w3.heap.size + 1, 3, none⟩ = false := by rw [bf _ _ (by first | omega | (simp <;> omega))]; first | with_reducible assumption | go_simp
    clear hb bc bf m5g0 m5g1 m5g2 m5g3 m5g4 m5g5 m5g6 o5g0 o5g1 o5g2 o5g3 o5f0 o5f1 o5f2 o5f3 f5g0 f5g1 f5g2 f5g3 f5f0 f5f1 f5f2 f5f3 c5g0 c5g1 c5g2 c5g3 c5f0 c5f1 c5f2 c5f3
    go_wp2_with (fail)
    go_at_call 28
    refine (HI1.out _).mono ?_
    rintro e w7 ⟨Bq1, q1, rfl, ho, hb⟩
    obtain ⟨bc, bf⟩ := bcell hb
    have hz7 := hb.size
    try simp at hz7
    have HB7 : Hid (Below w.heap.size w w7) := Lib.hid (below_then' (by repeat (first | with_reducible exact HB6.out | with_reducible refine blw_alloc ?_ _ | with_reducible refine Below.drew ?_ | with_reducible refine Below.setCell (p := ⟨_, _, none⟩) ?_ (by first | exact Nat.le_refl _ | (simp; done) | (simp; omega) | omega) _)) hb)
    have lm7 : w1.heap.size < w7.heap.size := by omega
    have m7g0 : w7.cell? ⟨w1.heap.size, 0, none⟩ = some (.int .i64 me) := by rw [bc _ _ (by first | omega | (simp <;> omega))]; first | with_reducible assumption | go_simp
    have m7g1 : w7.cell? ⟨w1.heap.size, 1, none⟩ = some (.int .i64 rv) := by rw [bc _ _ (by first | omega | (simp <;> omega))]; first | with_reducible assumption | go_simp
    have m7g2 : w7.cell? ⟨w1.heap.size, 2, none⟩ = some (.int .i64 0) := by rw [bc _ _ (by first | omega | (simp <;> omega))]; first | with_reducible assumption | go_simp
    have m7g3 : w7.cell? ⟨w1.heap.size, 3, none⟩ = some (.int .i64 0) := by rw [bc _ _ (by first | omega | (simp <;> omega))]; first | with_reducible assumption | go_simp
    have m7g4 : w7.cell? ⟨w1.heap.size, 4, none⟩ = some (.int .u64 0) := by rw [bc _ _ (by first | omega | (simp <;> omega))]; first | with_reducible assumption | go_simp
    have m7g5 : w7.cell? ⟨w1.heap.size, 5, none⟩ = some (.int .i64 bad) := by rw [bc _ _ (by first | omega | (simp <;> omega))]; first | with_reducible assumption | go_simp
    have m7g6 : w7.cell? ⟨w1.heap.size, 6, none⟩ = some (.int .i64 0) := by rw [bc _ _ (by first | omega | (simp <;> omega))]; first | with_reducible assumption | go_simp
    have lo7 : w2.heap.size < w7.heap.size := by omega
    have o7g0 : w7.cell? ⟨w2.heap.size, 0, none⟩ = some (.int .i64 0) := by rw [bc _ _ (by first | omega | (simp <;> omega))]; first | with_reducible assumption | go_simp
    have o7f0 : w7.frozen? ⟨w2.heap.size, 0, none⟩ = false := by rw [bf _ _ (by first | omega | (simp <;> omega))]; first | with_reducible assumption | go_simp
    have o7g1 : w7.cell? ⟨w2.heap.size, 1, none⟩ = some (.int .i64 2) := by rw [bc _ _ (by first | omega | (simp <;> omega))]; first | with_reducible assumption | go_simp
    have o7f1 : w7.frozen? ⟨w2.heap.size, 1, none⟩ = false := by rw [bf _ _ (by first | omega | (simp <;> omega))]; first | with_reducible assumption | go_simp
    have o7g2 : w7.cell? ⟨w2.heap.size, 2, none⟩ = some (.int .i64 oam) := by rw [bc _ _ (by first | omega | (simp <;> omega))]; first | with_reducible assumption | go_simp
    have o7f2 : w7.frozen? ⟨w2.heap.size, 2, none⟩ = false := by rw [bf _ _ (by first | omega | (simp <;> omega))]; first | with_reducible assumption | go_simp
    have o7g3 : w7.cell? ⟨w2.heap.size, 3, none⟩ = some (.int .i64 otag) := by rw [bc _ _ (by first | omega | (simp <;> omega))]; first | with_reducible assumption | go_simp
    have o7f3 : w7.frozen? ⟨w2.heap.size, 3, none⟩ = false := by rw [bf _ _ (by first | omega | (simp <;> omega))]; first | with_reducible assumption | go_simp
    have lf7 : w3.heap.size < w7.heap.size := by omega
    have f7g0 : w7.cell? ⟨w3.heap.size, 0, none⟩ = some (.int .i64 0) := by rw [bc _ _ (by first | omega | (simp <;> omega))]; first | with_reducible assumption | go_simp
    have f7f0 : w7.frozen? ⟨w3.heap.size, 0, none⟩ = false := by rw [bf _ _ (by first | omega | (simp <;> omega))]; first | with_reducible assumption | go_simp
    have f7g1 : w7.cell? ⟨w3.heap.size, 1, none⟩ = some (.int .i64 3) := by rw [bc _ _ (by first | omega | (simp <;> omega))]; first | with_reducible assumption | go_simp
    have f7f1 : w7.frozen? ⟨w3.heap.size, 1, none⟩ = false := by rw [bf _ _ (by first | omega | (simp <;> omega))]; first | with_reducible assumption | go_simp
    have f7g2 : w7.cell? ⟨w3.heap.size, 2, none⟩ = some (.int .i64 Y2) := by rw [bc _ _ (by first | omega | (simp <;> omega))]; first | with_reducible assumption | go_simp
    have f7f2 : w7.frozen? ⟨w3.heap.size, 2, none⟩ = false := by rw [bf _ _ (by first | omega | (simp <;> omega))]; first | with_reducible assumption | go_simp
    have f7g3 : w7.cell? ⟨w3.heap.size, 3, none⟩ = some (.int .i64 ftag) := by rw [bc _ _ (by first | omega | (simp <;> omega))]; first | with_reducible assumption | go_simp
    have f7f3 : w7.frozen? ⟨w3.heap.size, 3, none⟩ = false := by rw [bf _ _ (by first | omega | (simp <;> omega))]; first | with_reducible assumption | go_simp
    have lc7 : w3.heap.size + 1 < w7.heap.size := by omega
    have c7g0 : w7.cell? ⟨w3.heap.size + 1, 0, none⟩ = some (.int .i64 2) := by rw [bc _ _ (by first | omega | (simp <;> omega))]; first | with_reducible assumption | go_simp
    have c7f0 : w7.frozen? ⟨w3.heap.size + 1, 0, none⟩ = false := by rw [bf _ _ (by first | omega | (simp <;> omega))]; first | with_reducible assumption | go_simp
    have c7g1 : w7.cell? ⟨w3.heap.size + 1, 1, none⟩ = some (.int .i64 1) := by rw [bc _ _ (by first | omega | (simp <;> omega))]; first | with_reducible assumption | go_simp
    have c7f1 : w7.frozen? ⟨w3.heap.size + 1, 1, none⟩ = false := by rw [bf _ _ (by first | omega | (simp <;> omega))]; first | with_reducible assumption | go_simp
    have c7g2 : w7.cell? ⟨w3.heap.size + 1, 2, none⟩ = some (.int .i64 rev1) := by rw [bc _ _ (by first | omega | (simp <;> omega))]; first | with_reducible assumption | go_simp
    have c7f2 : w7.frozen? ⟨w3.heap.size + 1, 2, none⟩ = false := by rw [bf _ _ (by first | omega | (simp <;> omega))]; first | with_reducible assumption | go_simp
    have c7g3 : w7.cell? ⟨w3.heap.size + 1, 3, none⟩ = some (.int .i64 0) := by rw [bc _ _ (by first | omega | (simp <;> omega))]; first | with_reducible assumption | go_simp
    have c7f3 : w7.frozen? ⟨w3.heap.size + 1, 3, none⟩ = false := by rw [bf _ _ (by first | omega | (simp <;> omega))]; first | with_reducible assumption | go_simp
    have HO1 := Lib.hid ho
    clear hb bc bf m6g0 m6g1 m6g2 m6g3 m6g4 m6g5 m6g6 o6g0 o6g1 o6g2 o6g3 o6f0 o6f1 o6f2 o6f3 f6g0 f6g1 f6g2 f6g3 f6f0 f6f1 f6f2 f6f3 c6g0 c6g1 c6g2 c6g3 c6f0 c6f1 c6f2 c6f3 ho
    go_wp2_with (fail)
    go_at_call 28
    refine (HI2.out _ _ _ (World.ownsRow.alloc HO1.out _ |> OwPr.read) HO1.out.nil_of).mono ?_
    rintro e w8 ⟨Bq2, q2, rfl, ho, hb⟩
    obtain ⟨bc, bf⟩ := bcell hb
    have hz8 := hb.size
    try simp at hz8
    have HB8 : Hid (Below w.heap.size w w8) := Lib.hid (below_then' (by repeat (first | with_reducible exact HB7.out | with_reducible refine blw_alloc ?_ _ | with_reducible refine Below.drew ?_ | with_reducible refine Below.setCell (p := ⟨_, _, none⟩) ?_ (by first | exact Nat.le_refl _ | (simp; done) | (simp; omega) | omega) _)) hb)
    have lm8 : w1.heap.size < w8.heap.size := by omega
    have m8g0 : w8.cell? ⟨w1.heap.size, 0, none⟩ = some (.int .i64 me) := by rw [bc _ _ (by first | omega | (simp <;> omega))]; first | with_reducible assumption | go_simp
    have m8g1 : w8.cell? ⟨w1.heap.size, 1, none⟩ = some (.int .i64 rv) := by rw [bc _ _ (by first | omega | (simp <;> omega))]; first | with_reducible assumption | go_simp
    have m8g2 : w8.cell? ⟨w1.heap.size, 2, none⟩ = some (.int .i64 0) := by rw [bc _ _ (by first | omega | (simp <;> omega))]; first | with_reducible assumption | go_simp
    have m8g3 : w8.cell? ⟨w1.heap.size, 3, none⟩ = some (.int .i64 0) := by rw [bc _ _ (by first | omega | (simp <;> omega))]; first | with_reducible assumption | go_simp
    have m8g4 : w8.cell? ⟨w1.heap.size, 4, none⟩ = some (.int .u64 0) := by rw [bc _ _ (by first | omega | (simp <;> omega))]; first | with_reducible assumption | go_simp
    have m8g5 : w8.cell? ⟨w1.heap.size, 5, none⟩ = some (.int .i64 bad) := by rw [bc _ _ (by first | omega | (simp <;> omega))]; first | with_reducible assumption | go_simp
    have m8g6 : w8.cell? ⟨w1.heap.size, 6, none⟩ = some (.int .i64 0) := by rw [bc _ _ (by first | omega | (simp <;> omega))]; first | with_reducible assumption | go_simp
    have lo8 : w2.heap.size < w8.heap.size := by omega
    have o8g0 : w8.cell? ⟨w2.heap.size, 0, none⟩ = some (.int .i64 0) := by rw [bc _ _ (by first | omega | (simp <;> omega))]; first | with_reducible assumption | go_simp
    have o8f0 : w8.frozen? ⟨w2.heap.size, 0, none⟩ = false := by rw [bf _ _ (by first | omega | (simp <;> omega))]; first | with_reducible assumption | go_simp
    have o8g1 : w8.cell? ⟨w2.heap.size, 1, none⟩ = some (.int .i64 2) := by rw [bc _ _ (by first | omega | (simp <;> omega))]; first | with_reducible assumption | go_simp
    have o8f1 : w8.frozen? ⟨w2.heap.size, 1, none⟩ = false := by rw [bf _ _ (by first | omega | (simp <;> omega))]; first | with_reducible assumption | go_simp
    have o8g2 : w8.cell? ⟨w2.heap.size, 2, none⟩ = some (.int .i64 oam) := by rw [bc _ _ (by first | omega | (simp <;> omega))]; first | with_reducible assumption | go_simp
    have o8f2 : w8.frozen? ⟨w2.heap.size, 2, none⟩ = false := by rw [bf _ _ (by first | omega | (simp <;> omega))]; first | with_reducible assumption | go_simp
    have o8g3 : w8.cell? ⟨w2.heap.size, 3, none⟩ = some (.int .i64 otag) := by rw [bc _ _ (by first | omega | (simp <;> omega))]; first | with_reducible assumption | go_simp
    have o8f3 : w8.frozen? ⟨w2.heap.size, 3, none⟩ = false := by rw [bf _ _ (by first | omega | (simp <;> omega))]; first | with_reducible assumption | go_simp
    have lf8 : w3.heap.size < w8.heap.size := by omega
    have f8g0 : w8.cell? ⟨w3.heap.size, 0, none⟩ = some (.int .i64 0) := by rw [bc _ _ (by first | omega | (simp <;> omega))]; first | with_reducible assumption | go_simp
    have f8f0 : w8.frozen? ⟨w3.heap.size, 0, none⟩ = false := by rw [bf _ _ (by first | omega | (simp <;> omega))]; first | with_reducible assumption | go_simp
    have f8g1 : w8.cell? ⟨w3.heap.size, 1, none⟩ = some (.int .i64 3) := by rw [bc _ _ (by first | omega | (simp <;> omega))]; first | with_reducible assumption | go_simp
    have f8f1 : w8.frozen? ⟨w3.heap.size, 1, none⟩ = false := by rw [bf _ _ (by first | omega | (simp <;> omega))]; first | with_reducible assumption | go_simp
    have f8g2 : w8.cell? ⟨w3.heap.size, 2, none⟩ = some (.int .i64 Y2) := by rw [bc _ _ (by first | omega | (simp <;> omega))]; first | with_reducible assumption | go_simp
    have f8f2 : w8.frozen? ⟨w3.heap.size, 2, none⟩ = false := by rw [bf _ _ (by first | omega | (simp <;> omega))]; first | with_reducible assumption | go_simp
    have f8g3 : w8.cell? ⟨w3.heap.size, 3, none⟩ = some (.int .i64 ftag) := by rw [bc _ _ (by first | omega | (simp <;> omega))]; first | with_reducible assumption | go_simp
    have f8f3 : w8.frozen? ⟨w3.heap.size, 3, none⟩ = false := by rw [bf _ _ (by first | omega | (simp <;> omega))]; first | with_reducible assumption | go_simp
    have lc8 : w3.heap.size + 1 < w8.heap.size := by omega
    have c8g0 : w8.cell? ⟨w3.heap.size + 1, 0, none⟩ = some (.int .i64 2) := by rw [bc _ _ (by first | omega | (simp <;> omega))]; first | with_reducible assumption | go_simp
    have c8f0 : w8.frozen? ⟨w3.heap.size + 1, 0, none⟩ = false := by rw [bf _ _ (by first | omega | (simp <;> omega))]; first | with_reducible assumption | go_simp
    have c8g1 : w8.cell? ⟨w3.heap.size + 1, 1, none⟩ = some (.int .i64 1) := by rw [bc _ _ (by first | omega | (simp <;> omega))]; first | with_reducible assumption | go_simp
    have c8f1 : w8.frozen? ⟨w3.heap.size + 1, 1, none⟩ = false := by rw [bf _ _ (by first | omega | (simp <;> omega))]; first | with_reducible assumption | go_simp
    have c8g2 : w8.cell? ⟨w3.heap.size + 1, 2, none⟩ = some (.int .i64 rev1) := by rw [bc _ _ (by first | omega | (simp <;> omega))]; first | with_reducible assumption | go_simp
    have c8f2 : w8.frozen? ⟨w3.heap.size + 1, 2, none⟩ = false := by rw [bf _ _ (by first | omega | (simp <;> omega))]; first | with_reducible assumption | go_simp
    have c8g3 : w8.cell? ⟨w3.heap.size + 1, 3, none⟩ = some (.int .i64 0) := by rw [bc _ _ (by first | omega | (simp <;> omega))]; first | with_reducible assumption | go_simp
    have c8f3 : w8.frozen? ⟨w3.heap.size + 1, 3, none⟩ = false := by rw [bf _ _ (by first | omega | (simp <;> omega))]; first | with_reducible assumption | go_simp
    have ls8 : w7.heap.size < w8.heap.size := by omega
    have s8g0 : w8.cell? ⟨w7.heap.size, 0, none⟩ = some (.slice Bq1 L1.length q1) := by rw [bc _ _ (by first | omega | (simp <;> omega))]; first | with_reducible assumption | go_simp
    have s8f0 : w8.frozen? ⟨w7.heap.size, 0, none⟩ = false := by rw [bf _ _ (by first | omega | (simp <;> omega))]; first | with_reducible assumption | go_simp
    have HO2 := Lib.hid ho
    clear hb bc bf m7g0 m7g1 m7g2 m7g3 m7g4 m7g5 m7g6 o7g0 o7g1 o7g2 o7g3 o7f0 o7f1 o7f2 o7f3 f7g0 f7g1 f7g2 f7g3 f7f0 f7f1 f7f2 f7f3 c7g0 c7g1 c7g2 c7g3 c7f0 c7f1 c7f2 c7f3 ho
    go_wp2_with (fail)
    go_at_call 28
    refine (HI3.out _ _ _ (ownsRow_setCell_below HO2.out (a := ⟨w7.heap.size, 0, none⟩) (by simp) _ |> OwPr.read) HO2.out.nil_of).mono ?_
    rintro e w9 ⟨Bq3, q3, rfl, ho, hb⟩
    obtain ⟨bc, bf⟩ := bcell hb
    have hz9 := hb.size
    try simp at hz9
    have HB9 : Hid (Below w.heap.size w w9) := Lib.hid (below_then' (by repeat (first | with_reducible exact HB8.out | with_reducible refine blw_alloc ?_ _ | with_reducible refine Below.drew ?_ | with_reducible refine Below.setCell (p := ⟨_, _, none⟩) ?_ (by first | exact Nat.le_refl _ | (simp; done) | (simp; omega) | omega) _)) hb)
    have lm9 : w1.heap.size < w9.heap.size := by omega
    have m9g0 : w9.cell? ⟨w1.heap.size, 0, none⟩ = some (.int .i64 me) := by rw [bc _ _ (by first | omega | (simp <;> omega))]; first | with_reducible assumption | go_simp
    have m9g1 : w9.cell? ⟨w1.heap.size, 1, none⟩ = some (.int .i64 rv) := by rw [bc _ _ (by first | omega | (simp <;> omega))]; first | with_reducible assumption | go_simp
    have m9g2 : w9.cell? ⟨w1.heap.size, 2, none⟩ = some (.int .i64 0) := by rw [bc _ _ (by first | omega | (simp <;> omega))]; first | with_reducible assumption | go_simp
    have m9g3 : w9.cell? ⟨w1.heap.size, 3, none⟩ = some (.int .i64 0) := by rw [bc _ _ (by first | omega | (simp <;> omega))]; first | with_reducible assumption | go_simp
    have m9g4 : w9.cell? ⟨w1.heap.size, 4, none⟩ = some (.int .u64 0) := by rw [bc _ _ (by first | omega | (simp <;> omega))]; first | with_reducible assumption | go_simp
    have m9g5 : w9.cell? ⟨w1.heap.size, 5, none⟩ = some (.int .i64 bad) := by rw [bc _ _ (by first | omega | (simp <;> omega))]; first | with_reducible assumption | go_simp
    have m9g6 : w9.cell? ⟨w1.heap.size, 6, none⟩ = some (.int .i64 0) := by rw [bc _ _ (by first | omega | (simp <;> omega))]; first | with_reducible assumption | go_simp
    have lo9 : w2.heap.size < w9.heap.size := by omega
    have o9g0 : w9.cell? ⟨w2.heap.size, 0, none⟩ = some (.int .i64 0) := by rw [bc _ _ (by first | omega | (simp <;> omega))]; first | with_reducible assumption | go_simp
    have o9f0 : w9.frozen? ⟨w2.heap.size, 0, none⟩ = false := by rw [bf _ _ (by first | omega | (simp <;> omega))]; first | with_reducible assumption | go_simp
    have o9g1 : w9.cell? ⟨w2.heap.size, 1, none⟩ = some (.int .i64 2) := by rw [bc _ _ (by first | omega | (simp <;> omega))]; first | with_reducible assumption | go_simp
    have o9f1 : w9.frozen? ⟨w2.heap.size, 1, none⟩ = false := by rw [bf _ _ (by first | omega | (simp <;> omega))]; first | with_reducible assumption | go_simp
    have o9g2 : w9.cell? ⟨w2.heap.size, 2, none⟩ = some (.int .i64 oam) := by rw [bc _ _ (by first | omega | (simp <;> omega))]; first | with_reducible assumption | go_simp
    have o9f2 : w9.frozen? ⟨w2.heap.size, 2, none⟩ = false := by rw [bf _ _ (by first | omega | (simp <;> omega))]; first | with_reducible assumption | go_simp
    have o9g3 : w9.cell? ⟨w2.heap.size, 3, none⟩ = some (.int .i64 otag) := by rw [bc _ _ (by first | omega | (simp <;> omega))]; first | with_reducible assumption | go_simp
    have o9f3 : w9.frozen? ⟨w2.heap.size, 3, none⟩ = false := by rw [bf _ _ (by first | omega | (simp <;> omega))]; first | with_reducible assumption | go_simp
    have lf9 : w3.heap.size < w9.heap.size := by omega
    have f9g0 : w9.cell? ⟨w3.heap.size, 0, none⟩ = some (.int .i64 0) := by rw [bc _ _ (by first | omega | (simp <;> omega))]; first | with_reducible assumption | go_simp
    have f9f0 : w9.frozen? ⟨w3.heap.size, 0, none⟩ = false := by rw [bf _ _ (by first | omega | (simp <;> omega))]; first | with_reducible assumption | go_simp
    have f9g1 : w9.cell? ⟨w3.heap.size, 1, none⟩ = some (.int .i64 3) := by rw [bc _ _ (by first | omega | (simp <;> omega))]; first | with_reducible assumption | go_simp
    have f9f1 : w9.frozen? ⟨w3.heap.size, 1, none⟩ = false := by rw [bf _ _ (by first | omega | (simp <;> omega))]; first | with_reducible assumption | go_simp
    have f9g2 : w9.cell? ⟨w3.heap.size, 2, none⟩ = some (.int .i64 Y2) := by rw [bc _ _ (by first | omega | (simp <;> omega))]; first | with_reducible assumption | go_simp
    have f9f2 : w9.frozen? ⟨w3.heap.size, 2, none⟩ = false := by rw [bf _ _ (by first | omega | (simp <;> omega))]; first | with_reducible assumption | go_simp
    have f9g3 : w9.cell? ⟨w3.heap.size, 3, none⟩ = some (.int .i64 ftag) := by rw [bc _ _ (by first | omega | (simp <;> omega))]; first | with_reducible assumption | go_simp
    have f9f3 : w9.frozen? ⟨w3.heap.size, 3, none⟩ = false := by rw [bf _ _ (by first | omega | (simp <;> omega))]; first | with_reducible assumption | go_simp
    have lc9 : w3.heap.size + 1 < w9.heap.size := by omega
    have c9g0 : w9.cell? ⟨w3.heap.size + 1, 0, none⟩ = some (.int .i64 2) := by rw [bc _ _ (by first | omega | (simp <;> omega))]; first | with_reducible assumption | go_simp
    have c9f0 : w9.frozen? ⟨w3.heap.size + 1, 0, none⟩ = false := by rw [bf _ _ (by first | omega | (simp <;> omega))]; first | with_reducible assumption | go_simp
    have c9g1 : w9.cell? ⟨w3.heap.size + 1, 1, none⟩ = some (.int .i64 1) := by rw [bc _ _ (by first | omega | (simp <;> omega))]; first | with_reducible assumption | go_simp
    have c9f1 : w9.frozen? ⟨w3.heap.size + 1, 1, none⟩ = false := by rw [bf _ _ (by first | omega | (simp <;> omega))]; first | with_reducible assumption | go_simp
    have c9g2 : w9.cell? ⟨w3.heap.size + 1, 2, none⟩ = some (.int .i64 rev1) := by rw [bc _ _ (by first | omega | (simp <;> omega))]; first | with_reducible assumption | go_simp
    have c9f2 : w9.frozen? ⟨w3.heap.size + 1, 2, none⟩ = false := by rw [bf _ _ (by first | omega | (simp <;> omega))]; first | with_reducible assumption | go_simp
    have c9g3 : w9.cell? ⟨w3.heap.size + 1, 3, none⟩ = some (.int .i64 0) := by rw [bc _ _ (by first | omega | (simp <;> omega))]; first | with_reducible assumption | go_simp
    have c9f3 : w9.frozen? ⟨w3.heap.size + 1, 3, none⟩ = false := by rw [bf _ _ (by first | omega | (simp <;> omega))]; first | with_reducible assumption | go_simp
    have ls9 : w7.heap.size < w9.heap.size := by omega
    have s9g0 : w9.cell? ⟨w7.heap.size, 0, none⟩ = some (.slice Bq2 L2.length q2) := by rw [bc _ _ (by first | omega | (simp <;> omega))]; first | with_reducible assumption | go_simp
    have s9f0 : w9.frozen? ⟨w7.heap.size, 0, none⟩ = false := by rw [bf _ _ (by first | omega | (simp <;> omega))]; first | with_reducible assumption | go_simp
    have HO3 := Lib.hid ho
    clear hb bc bf m8g0 m8g1 m8g2 m8g3 m8g4 m8g5 m8g6 o8g0 o8g1 o8g2 o8g3 o8f0 o8f1 o8f2 o8f3 f8g0 f8g1 f8g2 f8g3 f8f0 f8f1 f8f2 f8f3 c8g0 c8g1 c8g2 c8g3 c8f0 c8f1 c8f2 c8f3 s8g0 s8f0 ho
    go_wp2_with (fail)
    have hrk := fun u0 u1 u2 u3 => OwPr.read (xs := L3) (ownsRow_setCell_below (ownsRow_setCell_below (ownsRow_setCell_below (ownsRow_setCell_below HO3.out (a := ⟨w7.heap.size, 0, none⟩) (by simp; omega) u0) (a := ⟨w2.heap.size, 3, none⟩) (by simp; omega) u1) (a := ⟨w3.heap.size + 1, 3, none⟩) (by simp; omega) u2) (a := ⟨w3.heap.size, 3, none⟩) (by simp; omega) u3)
    have HRK := Lib.hid hrk
    clear hrk
    go_at_call 23
    refine (HK1.out _ _ _ (HRK.out _ _ _ _)).mono ?_
    rintro e w10 ⟨rfl, hb⟩
    obtain ⟨bc, bf⟩ := bcell hb
    have hz10 := hb.size
    try simp at hz10
    have HB10 : Hid (Below w.heap.size w w10) := Lib.hid (below_then' (by repeat (first | with_reducible exact HB9.out | with_reducible refine blw_alloc ?_ _ | with_reducible refine Below.drew ?_ | with_reducible refine Below.setCell (p := ⟨_, _, none⟩) ?_ (by first | exact Nat.le_refl _ | (simp; done) | (simp; omega) | omega) _)) hb)
    have lm10 : w1.heap.size < w10.heap.size := by omega
    have m10g0 : w10.cell? ⟨w1.heap.size, 0, none⟩ = some (.int .i64 me) := by rw [bc _ _ (by first | omega | (simp <;> omega))]; first | with_reducible assumption | go_simp
    have m10g1 : w10.cell? ⟨w1.heap.size, 1, none⟩ = some (.int .i64 rv) := by rw [bc _ _ (by first | omega | (simp <;> omega))]; first | with_reducible assumption | go_simp
    have m10g2 : w10.cell? ⟨w1.heap.size, 2, none⟩ = some (.int .i64 0) := by rw [bc _ _ (by first | omega | (simp <;> omega))]; first | with_reducible assumption | go_simp
    have m10g3 : w10.cell? ⟨w1.heap.size, 3, none⟩ = some (.int .i64 0) := by rw [bc _ _ (by first | omega | (simp <;> omega))]; first | with_reducible assumption | go_simp
    have m10g4 : w10.cell? ⟨w1.heap.size, 4, none⟩ = some (.int .u64 0) := by rw [bc _ _ (by first | omega | (simp <;> omega))]; first | with_reducible assumption | go_simp
    have m10g5 : w10.cell? ⟨w1.heap.size, 5, none⟩ = some (.int .i64 bad) := by rw [bc _ _ (by first | omega | (simp <;> omega))]; first | with_reducible assumption | go_simp
    have m10g6 : w10.cell? ⟨w1.heap.size, 6, none⟩ = some (.int .i64 0) := by rw [bc _ _ (by first | omega | (simp <;> omega))]; first | with_reducible assumption | go_simp
    have lo10 : w2.heap.size < w10.heap.size := by omega
    have o10g0 : w10.cell? ⟨w2.heap.size, 0, none⟩ = some (.int .i64 0) := by rw [bc _ _ (by first | omega | (simp <;> omega))]; first | with_reducible assumption | go_simp
    have o10g1 : w10.cell? ⟨w2.heap.size, 1, none⟩ = some (.int .i64 2) := by rw [bc _ _ (by first | omega | (simp <;> omega))]; first | with_reducible assumption | go_simp
    have o10g2 : w10.cell? ⟨w2.heap.size, 2, none⟩ = some (.int .i64 oam) := by rw [bc _ _ (by first | omega | (simp <;> omega))]; first | with_reducible assumption | go_simp
    have o10g3 : w10.cell? ⟨w2.heap.size, 3, none⟩ = some (.int .i64 otag) := by rw [bc _ _ (by first | omega | (simp <;> omega))]; first | with_reducible assumption | go_simp
    have lf10 : w3.heap.size < w10.heap.size := by omega
    have f10g0 : w10.cell? ⟨w3.heap.size, 0, none⟩ = some (.int .i64 0) := by rw [bc _ _ (by first | omega | (simp <;> omega))]; first | with_reducible assumption | go_simp
    have f10g1 : w10.cell? ⟨w3.heap.size, 1, none⟩ = some (.int .i64 3) := by rw [bc _ _ (by first | omega | (simp <;> omega))]; first | with_reducible assumption | go_simp
    have f10g2 : w10.cell? ⟨w3.heap.size, 2, none⟩ = some (.int .i64 Y2) := by rw [bc _ _ (by first | omega | (simp <;> omega))]; first | with_reducible assumption | go_simp
    have f10g3 : w10.cell? ⟨w3.heap.size, 3, none⟩ = some (.int .i64 ftag) := by rw [bc _ _ (by first | omega | (simp <;> omega))]; first | with_reducible assumption | go_simp
    have lc10 : w3.heap.size + 1 < w10.heap.size := by omega
    have c10g0 : w10.cell? ⟨w3.heap.size + 1, 0, none⟩ = some (.int .i64 2) := by rw [bc _ _ (by first | omega | (simp <;> omega))]; first | with_reducible assumption | go_simp
    have c10g1 : w10.cell? ⟨w3.heap.size + 1, 1, none⟩ = some (.int .i64 1) := by rw [bc _ _ (by first | omega | (simp <;> omega))]; first | with_reducible assumption | go_simp
    have c10g2 : w10.cell? ⟨w3.heap.size + 1, 2, none⟩ = some (.int .i64 rev1) := by rw [bc _ _ (by first | omega | (simp <;> omega))]; first | with_reducible assumption | go_simp
    have c10g3 : w10.cell? ⟨w3.heap.size + 1, 3, none⟩ = some (.int .i64 5) := by rw [bc _ _ (by first | omega | (simp <;> omega))]; first | with_reducible assumption | go_simp
    have ls10 : w7.heap.size < w10.heap.size := by omega
    have s10g0 : w10.cell? ⟨w7.heap.size, 0, none⟩ = some (.slice Bq3 L3.length q3) := by rw [bc _ _ (by first | omega | (simp <;> omega))]; first | with_reducible assumption | go_simp
    have HR10 := Lib.hid ((HRK.out _ _ _ _).below hb)
    clear hb bc bf m9g0 m9g1 m9g2 m9g3 m9g4 m9g5 m9g6 o9g0 o9g1 o9g2 o9g3 o9f0 o9f1 o9f2 o9f3 f9g0 f9g1 f9g2 f9g3 f9f0 f9f1 f9f2 f9f3 c9g0 c9g1 c9g2 c9g3 c9f0 c9f1 c9f2 c9f3 s9g0 s9f0
    go_wp2_with (fail)
    go_at_call 23
    refine (HK2.out _ _ _ (HR10.out.below (blw_alloc (Below.refl _ _) _))).mono ?_
    rintro e w11 ⟨rfl, hb⟩
    obtain ⟨bc, bf⟩ := bcell hb
    have hz11 := hb.size
    try simp at hz11
    have HB11 : Hid (Below w.heap.size w w11) := Lib.hid (below_then' (by repeat (first | with_reducible exact HB10.out | with_reducible refine blw_alloc ?_ _ | with_reducible refine Below.drew ?_ | with_reducible refine Below.setCell (p := ⟨_, _, none⟩) ?_ (by first | exact Nat.le_refl _ | (simp; done) | (simp; omega) | omega) _)) hb)
    have lo11 : w2.heap.size < w11.heap.size := by omega
    have o11g0 : w11.cell? ⟨w2.heap.size, 0, none⟩ = some (.int .i64 0) := by rw [bc _ _ (by first | omega | (simp <;> omega))]; first | with_reducible assumption | go_simp
    have o11g1 : w11.cell? ⟨w2.heap.size, 1, none⟩ = some (.int .i64 2) := by rw [bc _ _ (by first | omega | (simp <;> omega))]; first | with_reducible assumption | go_simp
    have o11g2 : w11.cell? ⟨w2.heap.size, 2, none⟩ = some (.int .i64 oam) := by rw [bc _ _ (by first | omega | (simp <;> omega))]; first | with_reducible assumption | go_simp
    have o11g3 : w11.cell? ⟨w2.heap.size, 3, none⟩ = some (.int .i64 otag) := by rw [bc _ _ (by first | omega | (simp <;> omega))]; first | with_reducible assumption | go_simp
    have lf11 : w3.heap.size < w11.heap.size := by omega
    have f11g0 : w11.cell? ⟨w3.heap.size, 0, none⟩ = some (.int .i64 0) := by rw [bc _ _ (by first | omega | (simp <;> omega))]; first | with_reducible assumption | go_simp
    have f11g1 : w11.cell? ⟨w3.heap.size, 1, none⟩ = some (.int .i64 3) := by rw [bc _ _ (by first | omega | (simp <;> omega))]; first | with_reducible assumption | go_simp
    have f11g2 : w11.cell? ⟨w3.heap.size, 2, none⟩ = some (.int .i64 Y2) := by rw [bc _ _ (by first | omega | (simp <;> omega))]; first | with_reducible assumption | go_simp
    have f11g3 : w11.cell? ⟨w3.heap.size, 3, none⟩ = some (.int .i64 ftag) := by rw [bc _ _ (by first | omega | (simp <;> omega))]; first | with_reducible assumption | go_simp
    have ls11 : w7.heap.size < w11.heap.size := by omega
    have s11g0 : w11.cell? ⟨w7.heap.size, 0, none⟩ = some (.slice Bq3 L3.length q3) := by rw [bc _ _ (by first | omega | (simp <;> omega))]; first | with_reducible assumption | go_simp
    have HR11 := Lib.hid ((HR10.out.below (blw_alloc (Below.refl _ _) _)).below hb)
    clear hb bc bf m10g0 m10g1 m10g2 m10g3 m10g4 m10g5 m10g6 o10g0 o10g1 o10g2 o10g3 f10g0 f10g1 f10g2 f10g3 c10g0 c10g1 c10g2 c10g3 s10g0
    go_wp2_with (fail)
    go_at_call 23
    refine (HK3.out _ _ _ (HR11.out.below (blw_alloc (Below.refl _ _) _))).mono ?_
    rintro e w12 ⟨rfl, hb⟩
    obtain ⟨bc, bf⟩ := bcell hb
    have hz12 := hb.size
    try simp at hz12
    have HB12 : Hid (Below w.heap.size w w12) := Lib.hid (below_then' (by repeat (first | with_reducible exact HB11.out | with_reducible refine blw_alloc ?_ _ | with_reducible refine Below.drew ?_ | with_reducible refine Below.setCell (p := ⟨_, _, none⟩) ?_ (by first | exact Nat.le_refl _ | (simp; done) | (simp; omega) | omega) _)) hb)
    have lu12 : w11.heap.size < w12.heap.size := by omega
    have u12g0 : w12.cell? ⟨w11.heap.size, 0, none⟩ = some (.int .i64 me) := by rw [bc _ _ (by first | omega | (simp <;> omega))]; first | with_reducible assumption | go_simp
    have u12g1 : w12.cell? ⟨w11.heap.size, 1, none⟩ = some (.int .i64 rev1) := by rw [bc _ _ (by first | omega | (simp <;> omega))]; first | with_reducible assumption | go_simp
    have u12g2 : w12.cell? ⟨w11.heap.size, 2, none⟩ = some (.int .i64 0) := by rw [bc _ _ (by first | omega | (simp <;> omega))]; first | with_reducible assumption | go_simp
    have u12g3 : w12.cell? ⟨w11.heap.size, 3, none⟩ = some (.int .i64 1) := by rw [bc _ _ (by first | omega | (simp <;> omega))]; first | with_reducible assumption | go_simp
    have u12g4 : w12.cell? ⟨w11.heap.size, 4, none⟩ = some (.int .u64 1) := by rw [bc _ _ (by first | omega | (simp <;> omega))]; first | with_reducible assumption | go_simp
    have u12g5 : w12.cell? ⟨w11.heap.size, 5, none⟩ = some (.int .i64 0) := by rw [bc _ _ (by first | omega | (simp <;> omega))]; first | with_reducible assumption | go_simp
    have u12g6 : w12.cell? ⟨w11.heap.size, 6, none⟩ = some (.int .i64 0) := by rw [bc _ _ (by first | omega | (simp <;> omega))]; first | with_reducible assumption | go_simp
    have lf12 : w3.heap.size < w12.heap.size := by omega
    have f12g0 : w12.cell? ⟨w3.heap.size, 0, none⟩ = some (.int .i64 0) := by rw [bc _ _ (by first | omega | (simp <;> omega))]; first | with_reducible assumption | go_simp
    have f12g1 : w12.cell? ⟨w3.heap.size, 1, none⟩ = some (.int .i64 3) := by rw [bc _ _ (by first | omega | (simp <;> omega))]; first | with_reducible assumption | go_simp
    have f12g2 : w12.cell? ⟨w3.heap.size, 2, none⟩ = some (.int .i64 Y2) := by rw [bc _ _ (by first | omega | (simp <;> omega))]; first | with_reducible assumption | go_simp
    have f12g3 : w12.cell? ⟨w3.heap.size, 3, none⟩ = some (.int .i64 ftag) := by rw [bc _ _ (by first | omega | (simp <;> omega))]; first | with_reducible assumption | go_simp
    have ls12 : w7.heap.size < w12.heap.size := by omega
    have s12g0 : w12.cell? ⟨w7.heap.size, 0, none⟩ = some (.slice Bq3 L3.length q3) := by rw [bc _ _ (by first | omega | (simp <;> omega))]; first | with_reducible assumption | go_simp
    have HR12 := Lib.hid ((HR11.out.below (blw_alloc (Below.refl _ _) _)).below hb)
    clear hb bc bf o11g0 o11g1 o11g2 o11g3 f11g0 f11g1 f11g2 f11g3 s11g0
    go_wp2_with (fail)
    go_at_call 23
    refine (HK4.out _ _ _ (HR12.out.below (blw_alloc (Below.refl _ _) _))).mono ?_
    rintro e w13 ⟨rfl, hb⟩
    obtain ⟨bc, bf⟩ := bcell hb
    have hz13 := hb.size
    try simp at hz13
    have HB13 : Hid (Below w.heap.size w w13) := Lib.hid (below_then' (by repeat (first | with_reducible exact HB12.out | with_reducible refine blw_alloc ?_ _ | with_reducible refine Below.drew ?_ | with_reducible refine Below.setCell (p := ⟨_, _, none⟩) ?_ (by first | exact Nat.le_refl _ | (simp; done) | (simp; omega) | omega) _)) hb)
    have lu13 : w11.heap.size < w13.heap.size := by omega
    have u13g0 : w13.cell? ⟨w11.heap.size, 0, none⟩ = some (.int .i64 me) := by rw [bc _ _ (by first | omega | (simp <;> omega))]; first | with_reducible assumption | go_simp
    have u13g1 : w13.cell? ⟨w11.heap.size, 1, none⟩ = some (.int .i64 rev1) := by rw [bc _ _ (by first | omega | (simp <;> omega))]; first | with_reducible assumption | go_simp
    have u13g2 : w13.cell? ⟨w11.heap.size, 2, none⟩ = some (.int .i64 0) := by rw [bc _ _ (by first | omega | (simp <;> omega))]; first | with_reducible assumption | go_simp
    have u13g3 : w13.cell? ⟨w11.heap.size, 3, none⟩ = some (.int .i64 1) := by rw [bc _ _ (by first | omega | (simp <;> omega))]; first | with_reducible assumption | go_simp
    have u13g4 : w13.cell? ⟨w11.heap.size, 4, none⟩ = some (.int .u64 1) := by rw [bc _ _ (by first | omega | (simp <;> omega))]; first | with_reducible assumption | go_simp
    have u13g5 : w13.cell? ⟨w11.heap.size, 5, none⟩ = some (.int .i64 0) := by rw [bc _ _ (by first | omega | (simp <;> omega))]; first | with_reducible assumption | go_simp
    have u13g6 : w13.cell? ⟨w11.heap.size, 6, none⟩ = some (.int .i64 0) := by rw [bc _ _ (by first | omega | (simp <;> omega))]; first | with_reducible assumption | go_simp
    have lf13 : w3.heap.size < w13.heap.size := by omega
    have f13g0 : w13.cell? ⟨w3.heap.size, 0, none⟩ = some (.int .i64 0) := by rw [bc _ _ (by first | omega | (simp <;> omega))]; first | with_reducible assumption | go_simp
    have f13g1 : w13.cell? ⟨w3.heap.size, 1, none⟩ = some (.int .i64 3) := by rw [bc _ _ (by first | omega | (simp <;> omega))]; first | with_reducible assumption | go_simp
    have f13g2 : w13.cell? ⟨w3.heap.size, 2, none⟩ = some (.int .i64 Y2) := by rw [bc _ _ (by first | omega | (simp <;> omega))]; first | with_reducible assumption | go_simp
    have f13g3 : w13.cell? ⟨w3.heap.size, 3, none⟩ = some (.int .i64 ftag) := by rw [bc _ _ (by first | omega | (simp <;> omega))]; first | with_reducible assumption | go_simp
    clear hb bc bf u12g0 u12g1 u12g2 u12g3 u12g4 u12g5 u12g6 f12g0 f12g1 f12g2 f12g3 s12g0
    go_wp2
    go_ret
    exact ⟨by first | rfl | exact ret_bool (by simp), blw_alloc HB13.out _⟩
end Go.Proofs.Ytjfjmlcibhdilaa.MeterTurns
