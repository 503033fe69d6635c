/- The contract of debt.Age. -/
import Derived.Test.YtfdgjaahmbjnpaaDebt2
import Derived.WalkMore
namespace Go.Proofs.Ytfdgjaahmbjnpaa.Debt
open Go.RowKit Go.Proofs.Ytfdgjaahmbjnpaa.Base
set_option linter.unusedVariables false
set_option linter.unusedSimpArgs false
set_option maxRecDepth 20000

def grow1 (x : Db) : Db := ⟨min (x.a + x.a * x.b / 10000) 1000000000, x.b⟩
def ageN : Nat → Db → Db
  | 0, x => x
  | n + 1, x => grow1 (ageN n x)
theorem more_bd (x : Db) (h : x.ok) : 0 ≤ x.a * x.b ∧ x.a * x.b ≤ 10000000000000 := by
  obtain ⟨⟨h0, h1⟩, h2, h3⟩ := h
  exact ⟨Int.mul_nonneg h0 h2, Int.le_trans (Int.mul_le_mul h1 h3 h2 (by decide)) (by decide)⟩
theorem grow1_ok (x : Db) (h : x.ok) : (grow1 x).ok := by
  have hm := more_bd x h
  obtain ⟨⟨h0, h1⟩, h2, h3⟩ := h
  unfold grow1 Db.ok
  simp only
  omega
theorem ageN_ok (n : Nat) (x : Db) (h : x.ok) : (ageN n x).ok := by
  induction n with
  | zero => exact h
  | succ n ih => exact grow1_ok _ ih
theorem grow1_le (x : Db) (h : x.ok) : x.a ≤ (grow1 x).a := by
  have hm := more_bd x h
  obtain ⟨⟨h0, h1⟩, h2, h3⟩ := h
  unfold grow1
  simp only
  omega
theorem ageN_le (n : Nat) (x : Db) (h : x.ok) : x.a ≤ (ageN n x).a := by
  induction n with
  | zero => exact Int.le_refl _
  | succ n ih => exact Int.le_trans ih (grow1_le _ (ageN_ok n x h))
theorem ageN_bp (n : Nat) (x : Db) : (ageN n x).b = x.b := by
  induction n with
  | zero => rfl
  | succ n ih => exact ih
theorem grow1_fix (x : Db) (h : x.ok) (h0 : x.a * x.b / 10000 = 0) : grow1 x = x := by
  obtain ⟨⟨h1, h2⟩, h3, h4⟩ := h
  unfold grow1
  rw [h0]
  have : min (x.a + 0) 1000000000 = x.a := by omega
  rw [this]
theorem ageN_fix (x : Db) (k : Nat) (h : grow1 (ageN k x) = ageN k x) : ∀ n, ageN (k + n) x = ageN k x
  | 0 => rfl
  | n + 1 => by
    show grow1 (ageN (k + n) x) = _
    rw [ageN_fix x k h n, h]
theorem ageN_add (x : Db) (k : Nat) : ∀ n, ageN (k + n) x = ageN n (ageN k x)
  | 0 => rfl
  | n + 1 => by
    show grow1 (ageN (k + n) x) = grow1 _
    rw [ageN_add x k n]
def ageL (m : Nat) (xs : List Db) : List Db := xs.map (ageN m)
/-- The list while it is aged: the first i done, the i-th j months old. -/
def ageAt (m : Nat) (xs : List Db) (i j : Nat) : List Db := (xs.take i).map (ageN m) ++ ((xs.drop i).take 1).map (ageN j) ++ xs.drop (i + 1)
theorem ageAt_len (m : Nat) (xs : List Db) (i j : Nat) : (ageAt m xs i j).length = xs.length := by
  unfold ageAt; simp; omega
theorem ageAt_at (m : Nat) (xs : List Db) (i j : Nat) (h : i < xs.length) : (ageAt m xs i j)[i]? = some (ageN j xs[i]) := by
  unfold ageAt
  have h1 : ((xs.take i).map (ageN m)).length = i := by simp; omega
  have h2 : (xs.drop i).take 1 = [xs[i]] := by rw [List.drop_eq_getElem_cons h]; rfl
  rw [h2, List.append_assoc, List.getElem?_append_right (by omega), h1, Nat.sub_self]
  rfl
theorem ageAt_set (m : Nat) (xs : List Db) (i j : Nat) (h : i < xs.length) (y : Db) (hy : y = ageN (j + 1) xs[i]) : (ageAt m xs i j).set i y = ageAt m xs i (j + 1) := by
  subst hy
  unfold ageAt
  have h1 : ((xs.take i).map (ageN m)).length = i := by simp; omega
  have h2 : (xs.drop i).take 1 = [xs[i]] := by rw [List.drop_eq_getElem_cons h]; rfl
  rw [h2, List.append_assoc, List.set_append, if_neg (by omega), h1, Nat.sub_self]
  simp [List.append_assoc]
theorem ageAt_next (m : Nat) (xs : List Db) (i : Nat) (h : i < xs.length) : ageAt m xs i m = ageAt m xs (i + 1) 0 := by
  unfold ageAt
  have h2 : (xs.drop i).take 1 = [xs[i]] := by rw [List.drop_eq_getElem_cons h]; rfl
  have hd : ((xs.drop (i + 1)).take 1).map (ageN 0) ++ xs.drop (i + 1 + 1) = xs.drop (i + 1) := by
    have : ageN 0 = id := by funext x; rfl
    rw [this, List.map_id]
    rcases Nat.lt_or_ge (i + 1) xs.length with h3 | h3
    · rw [List.drop_eq_getElem_cons h3]; rfl
    · rw [List.drop_eq_nil_of_le h3, List.drop_eq_nil_of_le (by omega)]; rfl
  rw [List.append_assoc _ _ (xs.drop (i + 1 + 1)), hd, h2, List.take_succ_eq_append_getElem h, List.map_append]
theorem ageAt_zero (m : Nat) (xs : List Db) : ageAt m xs 0 0 = xs := by
  have h0 : ageN 0 = id := by funext x; rfl
  unfold ageAt
  rw [h0, List.map_id]
  cases xs <;> rfl
theorem ageAt_end (m : Nat) (xs : List Db) : ageAt m xs xs.length 0 = ageL m xs := by
  unfold ageAt ageL
  simp
theorem ageAt_fix (m : Nat) (xs : List Db) (i j : Nat) (h : i < xs.length) (hj : j ≤ m) (hf : grow1 (ageN j xs[i]) = ageN j xs[i]) : ageAt m xs i j = ageAt m xs i m := by
  unfold ageAt
  have h2 : (xs.drop i).take 1 = [xs[i]] := by rw [List.drop_eq_getElem_cons h]; rfl
  rw [h2]
  have := ageN_fix xs[i] j hf (m - j)
  rw [show j + (m - j) = m by omega] at this
  simp [this]

theorem own_drewN {w : World} {base : Nat} {e : TypeId} {size n : Nat} {v : Value} {xs : List Value} (h : w.ownsRow base e size v n xs) (k : Nat) : (w.drewN k).ownsRow base e size v n xs := h
theorem age_any (xs : List Db) (m : Nat) (mi : Int) (A : Option Addr) (c : Nat) (w : World) (hx : RdE 2 Db.enc w A xs) (hn : xs.length ≤ 8) (hk : ∀ x ∈ xs, x.ok) (hA : A = none → xs = [] ∧ c = 0) (hmi : mi = (m : Int)) (hm : m ≤ 2400) :
    Calls Try.prog 67 #[.slice A xs.length c, .int .i64 mi] w fun e w' => ∃ B q, e = .returned (.tuple #[.slice B (ageL m xs).length q, .int .i64 0]) ∧ OwDb w.heap.size w' B q (ageL m xs) ∧ Below w.heap.size w w' := by
  subst hmi
  have HX := Lib.hid hx
  have HK := Lib.hid hk
  have HA := Lib.hid hA
  clear hx hk hA
  go_enter Try.func67, Try.ntmps67
  go_wp2_with (first | (go_at_call 40; refine (fault_ok xs A c _ HX.out hn HK.out).mono ?_; rintro e w1 ⟨rfl, hb⟩; have HB1 := Lib.hid hb; clear hb) | (at_builtin; refine appN (w0 := w) (enc := Db.enc) w.heap.size rfl (.const (.slice none 0 0)) (.tmp 22) 51 122 (.agg #[.int .i64 0, .int .i64 0]) 2 16 rfl Try.underlying51 info_db rfl (by decide) (by decide) _ _ _ xs A c rfl rfl HA.out (fun _ => rfl) (HX.out.below HB1.out) (by intro x u hu; simp [Db.enc] at hu; rcases hu with rfl | rfl <;> rfl) (World.ownsRow_nil _ _ _ _) HB1.out HB1.out.size ?c1 ?_; (case c1 => omega); intro v1 w2 ho2 hb2 _; obtain ⟨B, q, rfl, ho3⟩ := OwDb.of (xs := xs) ho2 (by simp) (by simp); have HO2 := Lib.hid ho3; have HB2 := Lib.hid hb2; clear ho2 ho3 hb2))
  go_loopw [26] (fun v wr => ∃ i : Nat, i ≤ xs.length ∧ v = .int .i64 i ∧ wr.ownsRow w.heap.size 122 2 (.slice B xs.length q) xs.length ((ageAt m xs i 0).flatMap Db.enc) ∧ Below w.heap.size w wr) (fun v _ => xs.length - (intOf v).toNat)
  case atStart => exact ⟨0, by omega, rfl, by rw [ageAt_zero]; exact HO2.out, HB2.out⟩
  case round =>
    obtain ⟨i, hi, rfl, ho, hb⟩ := hrel
    have HO := Lib.hid ho
    have HB := Lib.hid hb
    clear ho hb
    by_cases hlt : i < xs.length
    · have hki : (i : Int) < (xs.length : Int) := by omega
      have hk0 : (0 : Int) ≤ (i : Int) := by omega
      obtain ⟨g, hg, hg0, hg1⟩ := own_addr HO.out (by omega)
      subst hg
      have hok := Lib.hid (HK.out xs[i] (List.getElem_mem hlt))
      go_wp2
      apply wp_scope_straight
      go_wp2
      apply wp_label
      go_wp2
      go_loopw [33] (fun v wr => ∃ j : Nat, j ≤ m ∧ v = .int .i64 j ∧ wr.ownsRow w.heap.size 122 2 (.slice (some ⟨g, 0, none⟩) xs.length q) xs.length ((ageAt m xs i j).flatMap Db.enc) ∧ Below w.heap.size w wr) (fun v _ => m - (intOf v).toNat)
      case atStart => exact ⟨0, by omega, rfl, HO.out, HB.out⟩
      case round =>
        obtain ⟨j, hj, rfl, ho, hb⟩ := hrel
        have HOj := Lib.hid ho
        have HBj := Lib.hid hb
        have hgl := (ho.lt g (by simp [Value.ownBlock])).2
        have hf0 := ho.frozenAt (i * 2)
        have hf1 := ho.frozenAt (i * 2 + 1)
        have hlen := ageAt_len m xs i j
        have hat := ageAt_at m xs i j hlt
        have hc0 : wr.cell? ⟨g, i * 2, none⟩ = some (.int .i64 (ageN j xs[i]).a) := by
          rw [ho.cellAt (i * 2) (by omega)]
          have := flat_get db_len (ageAt m xs i j) i 0 (by decide)
          rw [Nat.add_zero, hat] at this
          exact this
        have hc1 : wr.cell? ⟨g, i * 2 + 1, none⟩ = some (.int .i64 (ageN j xs[i]).b) := by
          rw [ho.cellAt (i * 2 + 1) (by omega)]
          have := flat_get db_len (ageAt m xs i j) i 1 (by decide)
          rw [hat] at this
          exact this
        have hgok := ageN_ok j _ hok.out
        have hmo := more_bd _ hgok
        obtain ⟨⟨y0, y1⟩, y2, y3⟩ := hgok
        obtain ⟨m0, m1⟩ := hmo
        have HL := Lib.hid hlen
        have HAT := Lib.hid hat
        clear ho hb hlen hat
        generalize hy : ageN j xs[i] = y at *
        have HY := Lib.hid hy
        clear hy
        obtain ⟨ya, yb⟩ := y
        simp only at *
        have hstep := Lib.hid (show grow1 ⟨ya, yb⟩ = ageN (j + 1) xs[i] by show _ = grow1 (ageN j xs[i]); rw [HY.out])
        by_cases hjm : j < m
        · have hjm1 : (j : Int) < (m : Int) := by omega
          by_cases hz : ya * yb / 10000 = 0
          · have hzb : (ya * yb / 10000 == 0) = true := by simp [hz]
            have HZ := Lib.hid hz
            clear hz
            go_wp2
            go_quiet (fail)
            go_wp2
            simp only [Exit.noGoto_normal]
            go_wp2
            go_roundw
            case rel =>
              refine ⟨i + 1, by omega, by go_num, ?_, blw_step HBj.out _⟩
              rw [← ageAt_next m xs i hlt, ← ageAt_fix m xs i j hlt (by omega) (by rw [HY.out]; exact grow1_fix _ ⟨⟨y0, y1⟩, y2, y3⟩ HZ.out)]
              exact own_drewN HOj.out _
            case measure => simp [intOf]; omega
          · have hzb : (ya * yb / 10000 == 0) = false := by simp [hz]
            have HZ := Lib.hid hz
            clear hz
            go_wp2
            go_quiet (fail)
            go_wp2
            go_roundw
            case rel =>
              have hst := (own_drewN HOj.out (w := wr) nq).stored (i * 2) (.int .i64 (if 1000000000 < ya + ya * yb / 10000 then 1000000000 else ya + ya * yb / 10000))
              refine ⟨j + 1, by omega, by go_num, ?_, (blw_step HBj.out _).setCell hg0 _⟩
              have hi2 : i < (ageAt m xs i j).length := by rw [HL.out]; exact hlt
              have hget : (ageAt m xs i j)[i] = ⟨ya, yb⟩ := by
                have := HAT.out
                rw [List.getElem?_eq_getElem hi2] at this
                simpa using this
              have hv : (if 1000000000 < ya + ya * yb / 10000 then 1000000000 else ya + ya * yb / 10000) = (grow1 ⟨ya, yb⟩).a := by
                unfold grow1
                simp only
                split <;> omega
              have hput := flat_put db_len (.int .i64 (if 1000000000 < ya + ya * yb / 10000 then 1000000000 else ya + ya * yb / 10000)) (grow1 ⟨ya, yb⟩) (ageAt m xs i j) i 0 hi2 (by decide) (by rw [hget, hv]; rfl)
              rw [ageAt_set m xs i j hlt _ hstep.out, Nat.add_zero] at hput
              rw [← hput]
              exact hst.1
            case measure => simp [intOf]; omega
        · obtain rfl : j = m := by omega
          go_wp2
          simp only [Exit.noGoto_normal]
          go_wp2
          go_roundw
          case rel =>
            refine ⟨i + 1, by omega, by go_num, ?_, HBj.out⟩
            rw [← ageAt_next j xs i hlt]
            exact HOj.out
          case measure => simp [intOf]; omega
    · obtain rfl : i = xs.length := by omega
      have hL := ageAt_end m xs
      have hl : xs.length = (ageL m xs).length := by unfold ageL; simp
      have ho := HO.out
      rw [hL] at ho
      have HF := Lib.hid ho
      have HLL := Lib.hid hl
      clear hL hl ho
      go_wp2
      go_ret2
      refine ⟨B, q, by rw [← HLL.out]; rfl, ?_, HB.out⟩
      unfold OwDb
      rw [← HLL.out]
      exact HF.out
end Go.Proofs.Ytfdgjaahmbjnpaa.Debt
