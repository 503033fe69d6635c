/- The contract of book.Encode. -/
import Derived.Test.YtjlihpbnhojdgaaEv3
import Derived.Test.YtjlihpbnhojdgaaApp
namespace Go.Proofs.Ytjlihpbnhojdgaa.Ev
open Go.RowKit Go.Proofs.Ytjlihpbnhojdgaa.Base Go.Proofs.Ytjlihpbnhojdgaa.Rcv
set_option linter.unusedVariables false
set_option linter.unusedSimpArgs false
set_option maxRecDepth 20000
theorem info_u32 : (Try.prog.info? 45).map (fun i => (i.zero, i.size, i.bytes)) = some (some (.int .u32 0), 1, 4) := by kernel_rfl
def Ev.f (v : Ev) : List Int := [v.k, v.me, v.mo, v.id, v.te, v.de, v.fe, v.pr, v.ch, v.un, v.tag, v.ow, v.bp]
def Ev.ws (v : Ev) : List UInt32 := v.f.map fun n => UInt32.ofNat n.toNat
theorem okE_low (v : Ev) (h : okE v) : ∀ n ∈ v.f, 0 ≤ n ∧ n ≤ 1000000000 := by
  obtain ⟨k, me, mo, id, te, de, fe, pr, ch, un, tag, ow, bp⟩ := v
  unfold okE ids noBill at h
  unfold Ev.f
  simp only at h
  intro n hn
  simp only [List.mem_cons, List.not_mem_nil, or_false] at hn
  rcases hn with rfl | rfl | rfl | rfl | rfl | rfl | rfl | rfl | rfl | rfl | rfl | rfl | rfl <;> omega
theorem ptrs_any (p : Nat) (w : World) : Calls Try.prog 60 #[.pointer (some ⟨p, 0, none⟩)] w fun e w' => (∃ Q : Array Value, e = .returned (.agg Q) ∧ Q.size = 13 ∧ ∀ k, k < 13 → Q[k]? = some (.pointer (some ⟨p, k, none⟩))) ∧ Below w.heap.size w w' := by
  refine (fields_any p w).mono fun e w' ⟨h1, h2⟩ => ⟨⟨_, h1, rfl, fun k hk => ?_⟩, h2⟩
  match k, hk with
  | 0, _ | 1, _ | 2, _ | 3, _ | 4, _ | 5, _ | 6, _ | 7, _ | 8, _ | 9, _ | 10, _ | 11, _ | 12, _ => rfl
set_option maxHeartbeats 4000000 in
theorem encode_no (v : Ev) (hv : ¬ okE v) (w : World) : Calls Try.prog 33 #[.agg v.l.toArray] w fun e w' => e = .returned (.tuple #[.slice none 0 0, .int .i64 5]) ∧ Below w.heap.size w w' := by
  have hmf : ∀ (fn : Fn) (first cap : Array Value) (w : World), (Instr.makeFunc fn first cap).run Try.prog w = .ok (.func fn first cap) w := fun _ _ _ _ => rfl
  have HC := Lib.hid (fun W => check_any v W)
  have HV := Lib.hid hv
  clear hv
  obtain ⟨L, hL⟩ : ∃ L, L = v.l := ⟨_, rfl⟩
  rw [← hL] at HC ⊢
  unfold Ev.l at hL
  obtain ⟨k, me, mo, id, te, de, fe, pr, ch, un, tag, ow, bp⟩ := v
  simp only at hL
  subst hL
  go_enter_defers Try.func33, Try.ntmps33
  go_wp2_with fail
  go_at_call 59
  refine (HC.out _).mono ?_
  rintro e w1 ⟨⟨hv, rfl⟩ | ⟨hv, rfl⟩, hb⟩
  · exact absurd hv HV.out
  clear HV HC
  have CE := Lib.hid ((show Cs _ (w.heap.size + 1) [.int .i64 0] from (by (repeat (first | (with_reducible refine Cs.new ?_; focus (first | rfl | (simp; done) | omega)) | with_reducible refine Cs.alloc ?_ _ | with_reducible refine Cs.drew ?_ | with_reducible refine Cs.drewN ?_ _ | (with_reducible refine Cs.other ?_ ?_ _; focus (first | omega | (simp; omega))) | with_reducible apply Cs.put)) <;> first | rfl | (simp; done))).after hb)
  have HB : Hid (Below w.heap.size w w1) := Lib.hid (below_then' (by repeat (first | with_reducible exact Below.refl _ _ | with_reducible refine blw_alloc ?_ _)) hb)
  clear hb
  go_wp2_with fail
  refine leaves_cons (f := 57) (args := #[.pointer (some ⟨w.heap.size + 1, 0, none⟩)]) (by simp) (by simp [go_sem]) ?_
  refine (enc_catch _ 0 5 _ (CE.out.at 0 rfl).1 (CE.out.at 0 rfl).2).mono ?_
  rintro e u w2 ⟨rfl, rfl, w3, hb, rfl⟩
  have CE3 := Lib.hid (CE.out.after hb)
  have CE4 := Lib.hid (Cs.put (v := .int .i64 5) (vs' := [.int .i64 5]) CE3.out (i := 0) (by simp) rfl)
  have c0 := (CE4.out.at 0 rfl).1
  simp [Leaves, settle, results, Try.results33, go_sem, c0]
  exact (HB.out.trans (hb.mono HB.out.size)).setCell (p := ⟨w.heap.size + 1, 0, none⟩) (by simp) _
theorem flat_ws : ∀ F : List Int, (∀ n ∈ F, 0 ≤ n ∧ n ≤ 1000000000) → (F.map fun n => UInt32.ofNat n.toNat).flatMap encW = F.map fun n => Value.int .u32 n
  | [], _ => rfl
  | n :: F, h => by
    obtain ⟨h0, h1⟩ := h n List.mem_cons_self
    rw [List.map_cons, List.flatMap_cons, flat_ws F (fun m hm => h m (List.mem_cons_of_mem _ hm)), List.map_cons]
    have e : (((UInt32.ofNat n.toNat).toNat : Nat) : Int) = n := by simp; omega
    unfold encW
    rw [e]
    rfl
theorem take_more (F : List Int) (j : Nat) (n : Int) (h : F[j]? = some n) : ((F.take (j + 1)).map fun n => Value.int .u32 n) = ((F.take j).map fun n => Value.int .u32 n) ++ [.int .u32 n] := by
  rw [List.take_add_one, h, List.map_append]
  rfl
theorem index_ptr (Q : Array Value) (j : Nat) (hj : j < 13) (p : Nat) (h : Q[j]? = some (.pointer (some ⟨p, j, none⟩))) (w : World) : (Instr.index 120 (.agg Q) (.int .i64 (j : Int))).run Try.prog w = .ok (.pointer (some ⟨p, j, none⟩)) w := by
  simp [Instr.index, go_sem]
  rw [if_pos hj, h]
  rfl
set_option maxHeartbeats 4000000 in
theorem encode_yes (v : Ev) (hv : okE v) (w : World) : Calls Try.prog 33 #[.agg v.l.toArray] w fun e w' => (∃ A q, e = .returned (.tuple #[.slice A 13 q, .int .i64 0]) ∧ w'.ownsRow w.heap.size 45 1 (.slice A 13 q) 13 (v.ws.flatMap encW)) ∧ Below w.heap.size w w' := by
  have hmf : ∀ (fn : Fn) (first cap : Array Value) (w : World), (Instr.makeFunc fn first cap).run Try.prog w = .ok (.func fn first cap) w := fun _ _ _ _ => rfl
  have HC := Lib.hid (fun W => check_any v W)
  have HV := Lib.hid hv
  have HLO := Lib.hid (okE_low v hv)
  clear hv
  obtain ⟨L, hL⟩ : ∃ L, L = v.l := ⟨_, rfl⟩
  have hLf : L = v.f.map (Value.int .i64) := hL
  obtain ⟨F, hF⟩ : ∃ F, F = v.f := ⟨_, rfl⟩
  have hF13 : F.length = 13 := by rw [hF]; rfl
  have hLl : L.length = 13 := by rw [hL]; rfl
  rw [← hL] at HC ⊢
  unfold Ev.ws
  rw [← hF] at HLO hLf ⊢
  have HLF := Lib.hid hLf
  clear hLf hF
  unfold Ev.l at hL
  have HL13 := Lib.hid hLl
  have HF13 := Lib.hid hF13
  clear hLl hF13
  have HX : Hid (∀ W, Calls Try.prog 59 #[.agg L.toArray] W fun e w' => e = .returned (.tuple #[]) ∧ Below W.heap.size W w') := Lib.hid fun W => (HC.out W).mono fun e w' ⟨h, hb⟩ => ⟨h.elim (fun x => x.2) (fun x => absurd HV.out x.1), hb⟩
  clear HC HV
  obtain ⟨k, me, mo, id, te, de, fe, pr, ch, un, tag, ow, bp⟩ := v
  simp only at hL
  subst hL
  go_enter_defers Try.func33, Try.ntmps33
  go_wp2_with fail
  go_at_call 59
  refine (HX.out _).mono ?_
  rintro e w1 ⟨rfl, hb⟩
  have CE := Lib.hid ((show Cs _ (w.heap.size + 1) [.int .i64 0] from (by (repeat (first | (with_reducible refine Cs.new ?_; focus (first | rfl | (simp; done) | omega)) | with_reducible refine Cs.alloc ?_ _ | with_reducible refine Cs.drew ?_ | with_reducible refine Cs.drewN ?_ _ | (with_reducible refine Cs.other ?_ ?_ _; focus (first | omega | (simp; omega))) | with_reducible apply Cs.put)) <;> first | rfl | (simp; done))).after hb)
  have CV := Lib.hid ((show Cs _ w.heap.size [.int .i64 k, .int .i64 me, .int .i64 mo, .int .i64 id, .int .i64 te, .int .i64 de, .int .i64 fe, .int .i64 pr, .int .i64 ch, .int .i64 un, .int .i64 tag, .int .i64 ow, .int .i64 bp] from (by (repeat (first | (with_reducible refine Cs.new ?_; focus (first | rfl | (simp; done) | omega)) | with_reducible refine Cs.alloc ?_ _ | with_reducible refine Cs.drew ?_ | with_reducible refine Cs.drewN ?_ _ | (with_reducible refine Cs.other ?_ ?_ _; focus (first | omega | (simp; omega))) | with_reducible apply Cs.put)) <;> first | rfl | (simp; done))).after hb)
  rw [HLF.out] at CV
  have HB : Hid (Below w.heap.size w w1) := Lib.hid (below_then' (by repeat (first | with_reducible exact Below.refl _ _ | with_reducible refine blw_alloc ?_ _)) hb)
  have hz1 := hb.size
  simp at hz1
  clear hb HX
  go_wp2_with fail
  go_at_call 60
  refine (ptrs_any _ _).mono ?_
  rintro e w2 ⟨⟨Q, rfl, hQ, hq⟩, hb⟩
  have CE2 := Lib.hid (CE.out.after hb)
  have CV2 := Lib.hid (CV.out.after hb)
  have HB2 : Hid (Below w.heap.size w w2) := Lib.hid (below_then' HB.out hb)
  have hz2 := hb.size
  clear hb CE CV
  have HQ := Lib.hid hq
  clear hq
  go_wp2_with fail
  go_loopw [2, 10] (fun v i wr => ∃ j : Nat, j ≤ 13 ∧ i = .int .i64 j ∧ wr.ownsRow w2.heap.size 45 1 v j ((F.take j).map fun n => Value.int .u32 n) ∧ Below w2.heap.size w2 wr) (fun _ i _ => 13 - (intOf i).toNat)
  case atStart => exact ⟨0, by omega, rfl, World.ownsRow_nil _ _ _ _, Below.refl _ _⟩
  case round =>
    obtain ⟨j, hj, rfl, ho, hb⟩ := hrel
    have HO := Lib.hid ho
    have HBr := Lib.hid hb
    have CVr := Lib.hid (CV2.out.after hb)
    have CEr := Lib.hid (CE2.out.after hb)
    have hzr := hb.size
    clear ho hb
    by_cases hlt : j < 13
    · have hqj := HQ.out j hlt
      have hF13 := HF13.out
      obtain ⟨n, hn⟩ : ∃ n, F[j]? = some n := ⟨F[j], List.getElem?_eq_getElem (by omega)⟩
      have cv := (CVr.out.at j (v := .int .i64 n) (by rw [List.getElem?_map, hn]; rfl)).1
      have hlo := HLO.out n (List.mem_of_getElem? hn)
      have hm : n % 4294967296 = n := by omega
      clear hF13
      have HN := Lib.hid hn
      clear hn
      have hix := index_ptr Q j hlt _ hqj
      have hpl : w.heap.size < wr.heap.size := by omega
      go_wp2_with (at_builtin; refine app1 (w0 := w2) w2.heap.size rfl (.tmp 13) (.tmp 18) 36 45 (.int .u32 0) 1 4 rfl Try.underlying36 info_u32 rfl (by decide) (by decide) _ _ _ [.int .u32 n] rfl rfl rfl ?c1 HO.out HBr.out HBr.out.size ?c2 ?_; (case c1 => intro u hu; simp at hu; subst hu; rfl); (case c2 => omega); intro v1 w1 ho1 hb1 _ _; have HO1 := Lib.hid ho1; have HB1 := Lib.hid hb1; clear ho1 hb1)
      go_roundw
      case rel =>
        refine ⟨j + 1, by omega, by go_num, ?_, HB1.out⟩
        rw [take_more F j n HN.out]
        exact HO1.out
      case measure => simp [intOf]; omega
    · obtain rfl : j = 13 := by omega
      clear hlt
      have ce := (CEr.out.at 0 rfl).1
      have cf := (CEr.out.at 0 rfl).2
      have hO := HO.out
      obtain ⟨A, q, rfl⟩ : ∃ A q, u2 = .slice A 13 q := by
        rcases hO.2 with ⟨_, h0⟩ | ⟨g, cap, cur, rfl, _⟩
        · cases h0
        · exact ⟨_, _, rfl⟩
      clear hO
      go_wp2_with fail
      refine leaves_cons (f := 57) (args := #[.pointer (some ⟨w.heap.size + 1, 0, none⟩)]) (by simp) (by simp [go_sem]) ?_
      have CE4 := Lib.hid (Cs.put (v := .int .i64 0) (vs' := [.int .i64 0]) CEr.out (i := 0) (by simp) rfl)
      refine (enc_idle _ 0 _ (CE4.out.at 0 rfl).1 (CE4.out.at 0 rfl).2).mono ?_
      rintro e u w4 ⟨rfl, rfl, rfl⟩
      have CE5 := Lib.hid (Cs.put (v := .int .i64 0) (vs' := [.int .i64 0]) CE4.out (i := 0) (by simp) rfl)
      have c0 := (CE5.out.at 0 rfl).1
      simp [Leaves, settle, results, Try.results33, go_sem, c0]
      have hb := HB2.out.trans (HBr.out.mono (show w.heap.size ≤ w2.heap.size by omega))
      refine ⟨⟨A, q, ⟨rfl, rfl⟩, ?_⟩, ((hb.setCell (p := ⟨w.heap.size + 1, 0, none⟩) (by simp) _).setCell (p := ⟨w.heap.size + 1, 0, none⟩) (by simp) _).drew⟩
      have h1 := ownsRow_setCell_below (ownsRow_setCell_below HO.out (a := ⟨w.heap.size + 1, 0, none⟩) (by simp; omega) (.int .i64 0)) (a := ⟨w.heap.size + 1, 0, none⟩) (by simp; omega) (.int .i64 0)
      rw [flat_ws F HLO.out, ← List.take_of_length_le (l := F) (i := 13) (by rw [HF13.out]; exact Nat.le_refl _)]
      exact own_kept (own_less h1 (by omega)) (Below.refl _ _).drew
end Go.Proofs.Ytjlihpbnhojdgaa.Ev
