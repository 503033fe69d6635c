/- Contracts: readback.Code, readback.Read. -/
import Derived.Test.YtccjcdecpgigpaaDoorMetW
import Derived.Test.YtccjcdecpgigpaaDoorLay
import Derived.Test.YtccjcdecpgigpaaDoorCodeP
import Derived.Test.YtccjcdecpgigpaaDoorChk
import Derived.Test.YtccjcdecpgigpaaDoorRest
import Derived.Test.YtccjcdecpgigpaaDoorCs
import Derived.Test.YtccjcdecpgigpaaDoorShelf
namespace Go.Proofs.YtccjcdecpgigpaaDoor.Code
open Go Go.RowKit Go.Proofs.YtccjcdecpgigpaaDoor.Base Go.Proofs.YtccjcdecpgigpaaDoor.Lay Go.Proofs.YtccjcdecpgigpaaDoor.Dec Go.Proofs.YtccjcdecpgigpaaDoor.Met Go.Proofs.YtccjcdecpgigpaaDoor.Win Go.Proofs.YtccjcdecpgigpaaDoor.Chk
set_option linter.unusedVariables false
set_option linter.unusedSimpArgs false
set_option maxRecDepth 20000
theorem grow_below (w : World) (k : Nat) (os : Array Obj) : Below w.heap.size w (Go.Sort.grow (w.drewN k) os) :=
  ⟨rfl, rfl, rfl, by show w.heap.size ≤ (w.heap ++ os).size; rw [Array.size_append]; omega, fun j hj => by show (w.heap ++ os)[j]? = w.heap[j]?; exact Array.getElem?_append_left hj⟩
theorem itoa_nat (n : Nat) : Lib.itoa (n : Int) = Lib.decDigits n := by
  unfold Lib.itoa
  rw [if_neg (by omega)]
  congr 1
def bs (l : List UInt8) : ByteArray := ⟨l.toArray⟩
theorem bs_list (l : List UInt8) : (bs l).data.toList = l := rfl
theorem bs_size (l : List UInt8) : (bs l).size = l.length := by rw [← bytes_len, bs_list]
theorem itoa_any (n : Nat) (h1 : n < 1000000000000000000) (w : World) (h : Tb w) :
    Calls Tryd.prog 46 #[.int .i64 n] w fun e w' => e = .returned (.string (bs (Lib.decDigits n))) ∧ Below w.heap.size w w' :=
  (Tryd.strconv_Itoa n (by omega) (by omega) w h).mono fun e w' ⟨he, hw⟩ => ⟨by rw [he, itoa_nat]; rfl, by obtain ⟨k, os, rfl⟩ := hw; exact grow_below _ _ _⟩
theorem repeat_l (k : Nat) : Lib.repeatL [48] k = zeros k := by
  unfold zeros
  induction k with
  | zero => rfl
  | succ k ih => rw [List.replicate_succ, ← ih]; rfl
theorem repeat_any (k : Nat) (w : World) (hk : k ≤ 20) :
    Calls Tryd.prog 38 #[.string ⟨#[48]⟩, .int .i64 k] w fun e w' => e = .returned (.string (bs (zeros k))) ∧ Below w.heap.size w w' :=
  (Tryd.strings_Repeat ⟨#[48]⟩ k w (by omega) (by show 1 * _ ≤ _; omega)).mono fun e w' ⟨he, hw⟩ => ⟨by rw [he, show (⟨#[48]⟩ : ByteArray).data.toList = [48] from rfl, repeat_l]; rfl, hw⟩
/-- What a meter shows. -/
def mcode (m : Mt) : Nat := codeN m.me.toNat m.cr.toNat m.wh.toNat
theorem mmay_lim {m : Mt} (h : mmay m = true) : (0 ≤ m.me ∧ m.me < 50) ∧ (0 ≤ m.cr ∧ m.cr ≤ 99999999) ∧ 0 ≤ m.wh ∧ m.wh ≤ 1048575 := by
  unfold mmay at h
  simp only [Bool.and_eq_true, decide_eq_true_eq] at h
  obtain ⟨⟨h1, h2, h3⟩, h4, h5⟩ := h
  exact ⟨h1, h3, wmay_bd h5⟩
theorem mcode_int {m : Mt} (h : mmay m = true) : ((m.cr * 1048576 + m.wh) * 50 + m.me) * 97 = ((mcode m : Nat) : Int) ∧ mcode m < 1000000000000000000 := by
  obtain ⟨⟨h1, h2⟩, ⟨h3, h4⟩, h5, h6⟩ := mmay_lim h
  refine ⟨?_, codeN_lt _ _ _ (by omega) (by omega) (by omega)⟩
  unfold mcode codeN
  omega
theorem code_bytes (v : Nat) (h : v < 1000000000000000000) : bs (zeros (18 - (Lib.decDigits v).length)) ++ bs (Lib.decDigits v) = bs (codeL v) := by
  apply bytes_ext
  rw [bytes_append, bs_list, bs_list, bs_list]
  rfl
set_option maxHeartbeats 4000000 in
theorem Code_yes (m : Mt) (w : World) (ok : m.ok) (hm : mmay m = true) (hT : Tb w) :
    Calls Tryd.prog 21 #[.agg m.vals] w fun e w' => e = .returned (.tuple #[.string (bs (codeL (mcode m))), .int .i64 0]) ∧ Below w.heap.size w w' := by
  obtain ⟨⟨a0, a1⟩, ⟨c0, c1⟩, h0, h1⟩ := mmay_lim hm
  obtain ⟨hv, hlt⟩ := mcode_int hm
  have HW := Lib.hid (fun W => words_yes m W ok hm)
  generalize wordsL m = L at *
  generalize mcode m = v at *
  have HI := Lib.hid (fun W h => itoa_any v hlt W h)
  have hdl := dec_len18 v hlt
  have HR := Lib.hid (fun W => repeat_any (18 - (Lib.decDigits v).length) W (by omega))
  have HC := Lib.hid (code_bytes v hlt)
  have zs := bs_size (Lib.decDigits v)
  have zz := bs_size (zeros (18 - (Lib.decDigits v).length))
  rw [show (zeros (18 - (Lib.decDigits v).length)).length = 18 - (Lib.decDigits v).length from List.length_replicate] at zz
  generalize bs (zeros (18 - (Lib.decDigits v).length)) = Z at *
  generalize bs (Lib.decDigits v) = D at *
  generalize (Lib.decDigits v).length = k at *
  have zs0 : D.size ≤ 18 := by omega
  have zz0 : Z.size ≤ 18 := by omega
  have HK := Lib.hid (show (18 : Int) - (D.size : Int) = ((18 - k : Nat) : Int) by omega)
  have HK2 := Lib.hid (show IntKind.i64.wrap ((18 : Int) - (D.size : Int)) = ((18 - k : Nat) : Int) by rw [IntKind.wrap_i64]; omega)
  have y1 : Z.size + D.size ≤ 9223372036854775807 := by omega
  have y2 : ¬ 9223372036854775807 < Z.size + D.size := by omega
  clear zs zz hdl hlt
  have HV := Lib.hid hv
  have HT := Lib.hid hT
  clear hv hT hm
  obtain ⟨me, rev, cr, wh, wb, bad, lock⟩ := m
  unfold Mt.vals at *
  simp only at *
  go_enter Tryd.func21, Tryd.ntmps21
  go_wp2_with fail
  go_at_call 45
  refine (HW.out _).mono ?_
  rintro e w1 ⟨A, c, rfl, _, hb⟩
  have HB1 : Hid (Below w.heap.size w w1) := Lib.hid (below_then' (blw_alloc (Below.refl _ _) _) hb)
  have T1 := Lib.hid (tb_below HT.out HB1.out)
  have C1 := Lib.hid ((show Cs _ w.heap.size [.int .i64 me, .int .i64 rev, .int .i64 cr, .int .i64 wh, .int .u64 (wb : Int), .int .i64 bad, .int .i64 lock] from Cs.new rfl).after hb)
  clear hb
  have g0 := (C1.out.at 0 rfl).1
  have g2 := (C1.out.at 2 rfl).1
  have g3 := (C1.out.at 3 rfl).1
  go_wp2_with fail
  go_at_call 46
  rw [HV.out]
  refine (HI.out _ T1.out).mono ?_
  rintro e w2 ⟨rfl, hb⟩
  have HB2 := Lib.hid (below_then' HB1.out hb)
  clear hb
  go_wp2_with fail
  go_at_call 38
  first | rw [HK.out] | rw [HK2.out]
  refine (HR.out _).mono ?_
  rintro e w3 ⟨rfl, hb⟩
  have HB3 := Lib.hid (below_then' HB2.out hb)
  clear hb
  go_wp2_with fail
  go_ret2
  exact ⟨by rw [HC.out]; rfl, HB3.out⟩
theorem restL_N (l : List UInt8) : restL l = restN l := rfl
theorem dg_all (s : ByteArray) (h : allDig s = true) : ∀ c ∈ s.data.toList, dgB c = true := by
  unfold allDig at h
  rw [List.all_eq_true] at h
  exact fun c hc => h c hc
/-- Eighteen digits that the seal does not divide: told. -/
theorem Read_bad (s : ByteArray) (w : World) (hd : allDig s = true) (h18 : s.size = 18) (hr : restL s.data.toList ≠ 0) :
    Calls Tryd.prog 22 #[.string s] w fun e w' => e = .returned (.tuple #[.agg #[.int .i64 0, .int .i64 0, .int .i64 0], .int .i64 8]) ∧ Below w.heap.size w w' := by
  have HR := Lib.hid (fun W => rest_ok s W (by unfold digitsE; rw [if_neg (by omega), hd]; rfl))
  have e1 : (restL s.data.toList == 0) = false := beq_eq_false_iff_ne.mpr hr
  have e2 : (restL s.data.toList != 0) = true := bne_iff_ne.mpr hr
  have hsz : (s.size : Int) = 18 := by omega
  clear hr hd
  generalize restL s.data.toList = r at *
  go_enter Tryd.func22, Tryd.ntmps22
  go_wp2_with fail
  go_at_call 47
  refine (HR.out _).mono ?_
  rintro e w1 ⟨rfl, hb⟩
  have HB1 : Hid (Below w.heap.size w w1) := Lib.hid (below_then' (blw_alloc (Below.refl _ _) _) hb)
  have C1 := Lib.hid ((show Cs _ w.heap.size [.int .i64 0, .int .i64 0, .int .i64 0] from Cs.new rfl).after hb)
  clear hb
  have g0 := (C1.out.at 0 rfl).1
  have g1 := (C1.out.at 1 rfl).1
  have g2 := (C1.out.at 2 rfl).1
  have f0 := (C1.out.at 0 rfl).2
  have f1 := (C1.out.at 1 rfl).2
  have f2 := (C1.out.at 2 rfl).2
  go_wp2_with fail
  refine bodyPost_ret (v := .tuple #[.agg #[.int .i64 0, .int .i64 0, .int .i64 0], .int .i64 8]) (by simp [results, Tryd.results22, go_sem, g0, f0, g1, f1, g2, f2]) rfl ⟨rfl, ?_⟩
  repeat (first | with_reducible exact HB1.out | with_reducible refine Below.setCell (p := ⟨_, _, none⟩) ?_ (by exact Nat.le_refl _) _)
theorem tdiv_nat (a b : Nat) : ((a : Int)).tdiv (b : Int) = ((a / b : Nat) : Int) := rfl
set_option maxHeartbeats 2000000 in
/-- Eighteen digits of a meter: read. -/
theorem Read_good (s : ByteArray) (me cr hi : Nat) (w : World) (h1 : me < 50) (h2 : cr ≤ 99999999) (h3 : hi ≤ 1048575) (hs : s = bs (codeL (codeN me cr hi))) :
    Calls Tryd.prog 22 #[.string s] w fun e w' => e = .returned (.tuple #[.agg #[.int .i64 me, .int .i64 cr, .int .i64 hi], .int .i64 0]) ∧ Below w.heap.size w w' := by
  have hlt := codeN_lt me cr hi h1 h2 h3
  have hl : s.data.toList = codeL (codeN me cr hi) := by rw [hs, bs_list]
  have h18 : s.size = 18 := by rw [← bytes_len, hl, code_len _ hlt]
  have hd : allDig s = true := by
    unfold allDig
    rw [hl, List.all_eq_true]
    exact fun c hc => code_dig _ c hc
  have hr0 : restL s.data.toList = 0 := by
    rw [restL_N, rest_val _ (dg_all s hd), hl, code_val, codeN_mod]; rfl
  have HR := Lib.hid (fun W => rest_ok s W (by unfold digitsE; rw [if_neg (by omega), hd]; rfl))
  rw [hr0] at HR
  obtain ⟨b1, b2, b3⟩ := codeN_back me cr hi h1 h3
  have hp := parse_val s.data.toList (by intro h; rw [← bytes_len, h] at h18; simp at h18) (dg_all s hd) (by rw [bytes_len]; omega)
  rw [hl, code_val] at hp
  rw [← hl] at hp
  obtain ⟨v, hv⟩ : ∃ v, v = codeN me cr hi := ⟨_, rfl⟩
  rw [← hv] at hp hlt b1 b2 b3
  have HP := Lib.hid (fun W => Tryd.strconv_ParseInt_10_at64_ok s (by omega) v hp W)
  have hsz : (s.size : Int) = 18 := by omega
  obtain ⟨qq, hqq⟩ : ∃ qq : Nat, qq = v / 97 := ⟨_, rfl⟩
  rw [← hqq] at b1 b2 b3
  have EQ : RowKit.wrap64 ((v : Int) / 97) = (qq : Int) := by unfold RowKit.wrap64; omega
  have e1 : (qq : Int) % 50 = (me : Int) := by omega
  have e2 : (qq : Int) / 50 / 1048576 = (cr : Int) := by omega
  have e3 : (qq : Int) / 50 % 1048576 = (hi : Int) := by omega
  have hq : qq ≤ 20000000000000000 := by
    rw [hqq]
    exact Nat.div_le_of_le_mul (Nat.le_trans (Nat.le_of_lt hlt) (by decide))
  have q1 : (qq : Int) ≤ 20000000000000000 := Int.ofNat_le.2 hq
  clear hq
  have v0 : (0 : Int) ≤ (v : Int) := by omega
  have c9 : ¬ (99999999 : Int) < (cr : Int) := by omega
  clear hs hl hd hr0 hp hv hlt b1 b2 b3 h18 hqq
  go_enter Tryd.func22, Tryd.ntmps22
  go_wp2_with fail
  go_at_call 47
  refine (HR.out _).mono ?_
  rintro e w1 ⟨rfl, hb⟩
  have HB1 : Hid (Below w.heap.size w w1) := Lib.hid (below_then' (blw_alloc (Below.refl _ _) _) hb)
  have C1 := Lib.hid ((show Cs _ w.heap.size [.int .i64 0, .int .i64 0, .int .i64 0] from Cs.new rfl).after hb)
  clear hb
  go_wp2_with fail
  go_at_call 48
  refine (HP.out _).mono ?_
  rintro e w2 ⟨rfl, hw2⟩
  have hb2 : Below w1.heap.size w1 w2 := by
    rcases hw2 with rfl | ⟨t, rfl⟩
    · exact Below.refl _ _
    · first | exact Lib.bytesWorld_below _ _ _ | exact bytesWorld_below _ _ _
  have HB2 := Lib.hid (below_then' HB1.out hb2)
  have C2 := Lib.hid (C1.out.after hb2)
  clear hw2 hb2
  have l2 := C2.out.1
  have g0 := (C2.out.at 0 rfl).1
  have g1 := (C2.out.at 1 rfl).1
  have g2 := (C2.out.at 2 rfl).1
  have f0 := (C2.out.at 0 rfl).2
  have f1 := (C2.out.at 1 rfl).2
  have f2 := (C2.out.at 2 rfl).2
  go_wp2_with fail
  refine bodyPost_ret (v := .tuple #[.agg #[.int .i64 me, .int .i64 cr, .int .i64 hi], .int .i64 0]) (by simp [results, Tryd.results22, go_sem, g0, f0, g1, f1, g2, f2, l2]) rfl ⟨rfl, ?_⟩
  repeat (first | with_reducible exact HB2.out | with_reducible refine blw_alloc ?_ _ | with_reducible refine Below.setCell (p := ⟨_, _, none⟩) ?_ (by exact Nat.le_refl _) _)
end Go.Proofs.YtccjcdecpgigpaaDoor.Code
