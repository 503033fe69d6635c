/- The contract of token.Parse. -/
import Derived.Test.YtccjcdecpgigpaaDoorTok3
import Derived.Test.YtccjcdecpgigpaaDoorRead
namespace Go.Proofs.YtccjcdecpgigpaaDoor.Tok
open Go.RowKit Go.Proofs.YtccjcdecpgigpaaDoor.Base Go.Proofs.YtccjcdecpgigpaaDoor.Dig Go.Proofs.YtccjcdecpgigpaaDoor.Word Go.Proofs.YtccjcdecpgigpaaDoor.Bits
set_option linter.unusedVariables false
set_option linter.unusedSimpArgs false
set_option maxRecDepth 20000
theorem over_w (N : Nat) (w : World) (hN : N < 79228162514264337593543950336) :
    Calls Tryd.prog 41 #[.agg #[.int .u32 (wN N).a, .int .u32 (wN N).b, .int .u32 (wN N).c], .int .u32 97] w fun e w' => e = .returned (.tuple #[.agg #[.int .u32 (wN (N / 97)).a, .int .u32 (wN (N / 97)).b, .int .u32 (wN (N / 97)).c], .int .u32 ((N % 97 : Nat) : Int), .int .i64 0]) ∧ Below w.heap.size w w' := by
  have hd : wd 97 := by unfold wd; omega
  have h := over_any (wN N) 97 w (wN_ok hN) hd (by decide)
  obtain ⟨_, _, ⟨f0, l0⟩, ok, hn⟩ := over_facts (wN N) 97 (wN_ok hN) hd (by decide)
  rw [wN_num] at hn
  have hb := num_bound ok
  unfold wd at f0
  have e1 : ov0 (wN N) 97 = ((N % 97 : Nat) : Int) := by omega
  have e2 : overW (wN N) 97 = wN (N / 97) := num_inj ok (wN_ok (by omega)) (by rw [wN_num]; omega)
  rw [e1, e2] at h
  exact h
theorem trim_val (l m : List UInt8) : valL (Lib.trimLeftB l 48 ++ m) = valL (l ++ m) := by
  unfold Lib.trimLeftB
  induction l with
  | nil => rfl
  | cons c l ih =>
    rw [List.dropWhile_cons]
    split
    · rename_i h
      rw [ih]
      have hc : c = 48 := by simpa using h
      rw [hc, List.cons_append, valL_cons]
      simp
    · rfl
theorem trim_dig (l m : List UInt8) (h : ∀ c ∈ l ++ m, isDig c = true) : ∀ c ∈ Lib.trimLeftB l 48 ++ m, isDig c = true := by
  intro c hc
  rcases List.mem_append.1 hc with h1 | h1
  · exact h c (List.mem_append_left _ ((List.dropWhile_sublist _).subset h1))
  · exact h c (List.mem_append_right _ h1)
theorem trim_len (l : List UInt8) : (Lib.trimLeftB l 48).length ≤ l.length := (List.dropWhile_sublist _).length_le
theorem trim_head (l m : List UInt8) (hm : m.length = 1) : (Lib.trimLeftB l 48 ++ m).length = 1 ∨ ∀ c, (Lib.trimLeftB l 48 ++ m).head? = some c → c ≠ 48 := by
  unfold Lib.trimLeftB
  cases h : l.dropWhile (· == 48) with
  | nil => left; simpa using hm
  | cons d r =>
    right
    intro c hc
    simp at hc
    subst hc
    have := List.head_dropWhile_not (· == (48 : UInt8)) (l := l) (by rw [h]; simp)
    simp only [h, List.head_cons] at this
    simpa using this
theorem dig_no {c : UInt8} (h : (c.toNat : Int) < 48 ∨ 57 < (c.toNat : Int)) : isDig c = false := by unfold isDig; simp; omega
theorem dig_yes {c : UInt8} (h : 48 ≤ (c.toNat : Int) ∧ (c.toNat : Int) ≤ 57) : isDig c = true := by unfold isDig; simp; omega
theorem parse_bad (s : ByteArray) (h1 : s.size = 20) (i : Nat) (h : i < s.size) (hn : isDig (s[i]'h) = false) : parseE s.data.toList = 7 := by
  unfold parseE
  rw [if_neg (by rw [bytes_len]; omega), if_pos]
  intro hh
  have := hh _ (List.mem_of_getElem? (bytes_at s i h))
  rw [hn] at this
  cases this
def stepsE (N : Nat) : Int := if 73786976294838206464 ≤ N then 2 else if N % 97 ≠ 0 then 8 else if bitsN (N / 97) 59 32 ≠ 0 ∨ faultI (tokOf (N / 97)) ≠ 0 then 2 else 0
theorem parse_steps (l : List UInt8) (h : l.length = 20) (hd : ∀ c ∈ l, isDig c = true) : parseE l = stepsE (valL l) ∧ (parseE l = 0 → parseT l = tokOf (valL l / 97)) := by
  have hlt := valL_lt l hd
  rw [h] at hlt
  refine ⟨?_, fun h0 => by unfold parseT; rw [if_pos h0]⟩
  unfold parseE stepsE
  rw [if_neg (by simpa using h), if_neg (by simpa using hd)]
  by_cases h1 : 73786976294838206464 ≤ valL l
  · rw [if_pos h1, if_pos h1]
  · rw [if_neg h1, if_neg h1]
    have e : bitsN (valL l / 97) 59 32 = valL l / 97 / 576460752303423488 := by
      unfold bitsN
      rw [show (2 : Nat) ^ 59 = 576460752303423488 from rfl, show (2 : Nat) ^ 32 = 4294967296 from rfl]
      omega
    rw [e]
theorem bits_w (q lo n : Nat) (w : World) (hq : q < 79228162514264337593543950336) (h1 : 1 ≤ n) (h2 : n ≤ 64) (h3 : lo + n ≤ 96) :
    Calls Tryd.prog 43 #[.agg #[.int .u32 (wN q).a, .int .u32 (wN q).b, .int .u32 (wN q).c], .int .i64 (lo : Int), .int .i64 (n : Int)] w fun e w' => e = .returned (.tuple #[.int .u64 (bitsN q lo n : Nat), .int .i64 0]) ∧ Below w.heap.size w w' := by
  have h := bits_any (q % 4294967296) (q / 4294967296 % 4294967296) (q / 18446744073709551616) lo n w (by omega) (by omega) (by omega) h1 h2 h3
  rw [show q % 4294967296 + q / 4294967296 % 4294967296 * 4294967296 + q / 18446744073709551616 * 18446744073709551616 = q from by omega] at h
  exact h
theorem bits_tag (q : Nat) : ((bitsN q 0 16 : Nat) : Int) = (tokOf q).tag := by unfold bitsN tokOf; simp
theorem bits_am (q : Nat) : ((bitsN q 16 21 : Nat) : Int) = (tokOf q).am := by unfold bitsN tokOf; simp
theorem bits_id (q : Nat) : ((bitsN q 37 20 : Nat) : Int) = (tokOf q).id := by unfold bitsN tokOf; simp
theorem bits_cl (q : Nat) : ((bitsN q 57 2 : Nat) : Int) = (tokOf q).cl := by unfold bitsN tokOf; simp
theorem field_w (q at_ n : Nat) (ai ni ri vi : Int) (p : Nat) (w : World) (hv : vi = (bitsN q at_ n : Nat)) (ha : ai = (at_ : Int)) (hn : ni = (n : Int)) (hr : ri = ((at_ + n : Nat) : Int)) (hq : q < 79228162514264337593543950336) (h1 : 1 ≤ n) (h2 : n ≤ 62) (h3 : at_ + n ≤ 96) (hp : Cs w p [.int .i64 ai]) :
    Calls Tryd.prog 42 #[.agg #[.int .u32 (wN q).a, .int .u32 (wN q).b, .int .u32 (wN q).c], .pointer (some ⟨p, 0, none⟩), .int .i64 ni] w fun e w' => e = .returned (.int .i64 vi) ∧ Cs w' p [.int .i64 ri] ∧ (∀ g vs, g ≠ p → Cs w g vs → Cs w' g vs) ∧ ∀ B, B ≤ p → B ≤ w.heap.size → Below B w w' := by
  subst hv ha hn hr
  exact field_any q at_ n p w hq h1 h2 h3 hp
def noT : Array Value := #[.int .i64 0, .int .i64 0, .int .i64 0, .int .i64 0]
theorem parse_len (s : ByteArray) (h : s.size ≠ 20) (w : World) : Calls Tryd.prog 18 #[.string s] w fun e w' => e = .returned (.tuple #[.agg noT, .int .i64 6]) ∧ Below w.heap.size w w' := by
  have hn : ((s.size : Int) != 20) = true := bne_iff_ne.mpr (by omega)
  clear h
  go_enter Tryd.func18, Tryd.ntmps18
  go_wp2_with fail
  refine bodyPost_ret (v := .tuple #[.agg #[.int .i64 0, .int .i64 0, .int .i64 0, .int .i64 0], .int .i64 6]) (by simp [results, Tryd.results18, go_sem]) rfl ⟨rfl, ?_⟩
  exact blw_alloc (Below.refl _ _) _
set_option maxHeartbeats 8000000 in
theorem parse_any (s : ByteArray) (h : s.size = 20) (w : World) : Calls Tryd.prog 18 #[.string s] w fun e w' => e = .returned (.tuple #[.agg (parseT s.data.toList).vals, .int .i64 (parseE s.data.toList)]) ∧ Below w.heap.size w w' := by
  have hn : ((s.size : Int) != 20) = false := by simp [h]
  have hT : parseE s.data.toList ≠ 0 → parseT s.data.toList = ⟨0, 0, 0, 0⟩ := fun h => by unfold parseT; rw [if_neg h]
  have hBAD := Lib.hid (fun i hi hn => parse_bad s h i hi hn)
  obtain ⟨PT, hPT⟩ : ∃ p, p = parseT s.data.toList := ⟨_, rfl⟩
  obtain ⟨PE, hPE⟩ : ∃ p, p = parseE s.data.toList := ⟨_, rfl⟩
  rw [← hPT, ← hPE] at hT ⊢
  have HPT := Lib.hid hPT
  have HPE := Lib.hid hPE
  have HT := Lib.hid hT
  rw [← hPE] at hBAD
  clear hPT hPE hT
  unfold Tk.vals
  have HSZ := Lib.hid h
  clear h
  go_enter Tryd.func18, Tryd.ntmps18
  go_upto_region 3 with fail
  have CR := Lib.hid (show Cs (w.alloc (.cells #[.int .i64 0, .int .i64 0, .int .i64 0, .int .i64 0] 27)) w.heap.size [.int .i64 0, .int .i64 0, .int .i64 0, .int .i64 0] from Cs.new rfl)
  have HB := Lib.hid (blw_alloc (Below.refl w.heap.size w) (.cells #[.int .i64 0, .int .i64 0, .int .i64 0, .int .i64 0] 27))
  have hz : (w.alloc (.cells #[.int .i64 0, .int .i64 0, .int .i64 0, .int .i64 0] 27)).heap.size = w.heap.size + 1 := by simp
  generalize hW : w.alloc (.cells #[.int .i64 0, .int .i64 0, .int .i64 0, .int .i64 0] 27) = W at *
  clear hW
  have HZW := Lib.hid hz
  have CRI : ∀ pos, Cs (W.iter s pos) w.heap.size [.int .i64 0, .int .i64 0, .int .i64 0, .int .i64 0] := fun pos => CR.out.after (below_iter W s pos)
  have HBI : ∀ pos, Below w.heap.size w (W.iter s pos) := fun pos => below_then' HB.out (below_iter W s pos)
  have CRH := Lib.hid CRI
  have HBH := Lib.hid HBI
  clear CRI HBI
  go_upto_region 4 with fail
  go_loopw [] (fun w' => ∃ pos : Nat, pos ≤ s.size ∧ w' = W.iter s pos ∧ ∀ i, i < pos → ∀ h : i < s.size, isDig (s[i]'h) = true) (fun w' => s.size - w'.iterPos W.heap.size)
  case atStart => exact ⟨0, by omega, rfl, by intro i hi; omega⟩
  case round =>
    obtain ⟨pos, hp0, rfl, hall0⟩ := hrel
    have hall := Lib.hid hall0
    clear hall0
    have CRP := Lib.hid (CRH.out pos)
    have lr := CRP.out.1
    by_cases hp : pos < s.size
    · by_cases ha : (s[pos]'hp).toNat < 128
      · have hnx : ∀ ty, (Instr.next (.pointer (some ⟨W.heap.size, 0, none⟩)) true ty).run Tryd.prog (W.iter s pos) = _ := fun ty => run_next_ascii W s pos ty hp ha
        rw [HZW.out] at hnx
        have CRQ := Lib.hid (CRH.out (pos + 1))
        have lq := CRQ.out.1
        have rg0 := (CRQ.out.at 0 rfl).1
        have rf0 := (CRQ.out.at 0 rfl).2
        have rg1 := (CRQ.out.at 1 rfl).1
        have rf1 := (CRQ.out.at 1 rfl).2
        have rg2 := (CRQ.out.at 2 rfl).1
        have rf2 := (CRQ.out.at 2 rfl).2
        have rg3 := (CRQ.out.at 3 rfl).1
        have rf3 := (CRQ.out.at 3 rfl).2
        go_wp2_with fail
        all_goals try (
          rename_i hb
          have hp7 := hBAD.out pos hp (dig_no (by omega))
          have hpt := HT.out (by rw [hp7]; decide)
          refine bodyPost_ret (v := .tuple #[.agg #[.int .i64 0, .int .i64 0, .int .i64 0, .int .i64 0], .int .i64 7]) (by simp [results, Tryd.results18, go_sem, rg0, rf0, rg1, rf1, rg2, rf2, rg3, rf3]) rfl ⟨?_, ?_⟩
          · rw [hp7, hpt]
          · exact (((((HBH.out (pos + 1)).setCell (p := ⟨w.heap.size, 0, none⟩) (Nat.le_refl _) _).setCell (p := ⟨w.heap.size, 1, none⟩) (Nat.le_refl _) _).setCell (p := ⟨w.heap.size, 2, none⟩) (Nat.le_refl _) _).setCell (p := ⟨w.heap.size, 3, none⟩) (Nat.le_refl _) _))
        rename_i hb
        have hb' := dig_yes hb
        go_roundw
        case rel =>
          refine ⟨pos + 1, by omega, rfl, ?_⟩
          intro i hi h
          by_cases hip : i = pos
          · subst hip; exact hb'
          · exact hall.out i (by omega) h
        case measure => simp; omega
      · have hd := decode_high s pos hp (by omega)
        have hi := decode_le s pos
        have hnx : ∀ ty, (Instr.next (.pointer (some ⟨W.heap.size, 0, none⟩)) true ty).run Tryd.prog (W.iter s pos) = _ := fun ty => run_next_any W s pos ty hp
        rw [HZW.out] at hnx
        generalize Utf8.decode s pos = d at hd hi hnx
        obtain ⟨r, n⟩ := d
        simp only at hd hi hnx
        obtain ⟨hd1, hd2⟩ := hd
        have CRQ := Lib.hid (CRH.out (pos + n))
        have lq := CRQ.out.1
        have rg0 := (CRQ.out.at 0 rfl).1
        have rf0 := (CRQ.out.at 0 rfl).2
        have rg1 := (CRQ.out.at 1 rfl).1
        have rf1 := (CRQ.out.at 1 rfl).2
        have rg2 := (CRQ.out.at 2 rfl).1
        have rf2 := (CRQ.out.at 2 rfl).2
        have rg3 := (CRQ.out.at 3 rfl).1
        have rf3 := (CRQ.out.at 3 rfl).2
        go_wp2_with fail
        all_goals
          have hp7 := hBAD.out pos hp (dig_no (by omega))
          have hpt := HT.out (by rw [hp7]; decide)
          refine bodyPost_ret (v := .tuple #[.agg #[.int .i64 0, .int .i64 0, .int .i64 0, .int .i64 0], .int .i64 7]) (by simp [results, Tryd.results18, go_sem, rg0, rf0, rg1, rf1, rg2, rf2, rg3, rf3]) rfl ⟨?_, ?_⟩
          · rw [hp7, hpt]
          · exact (((((HBH.out (pos + n)).setCell (p := ⟨w.heap.size, 0, none⟩) (Nat.le_refl _) _).setCell (p := ⟨w.heap.size, 1, none⟩) (Nat.le_refl _) _).setCell (p := ⟨w.heap.size, 2, none⟩) (Nat.le_refl _) _).setCell (p := ⟨w.heap.size, 3, none⟩) (Nat.le_refl _) _)
    · obtain rfl : pos = s.size := by omega
      have hnx : ∀ ty, (Instr.next (.pointer (some ⟨W.heap.size, 0, none⟩)) true ty).run Tryd.prog (W.iter s s.size) = _ := fun ty => run_next_end W s s.size ty (Nat.lt_irrefl _)
      rw [HZW.out] at hnx
      have hdig : ∀ c ∈ s.data.toList, isDig c = true := by
        intro c hc
        obtain ⟨i, hi, rfl⟩ := List.getElem_of_mem hc
        have hi' : i < s.size := by simpa using hi
        exact hall.out i hi' hi'
      have h20 := HSZ.out
      have hle19 : 19 ≤ s.size := by omega
      have hle19i : (19 : Int) ≤ (s.size : Int) := by omega
      have hmx : s.size ≤ 9223372036854775807 := by omega
      have HTR := Lib.hid (fun W => Tryd.strings_TrimLeft_one (s.extract 0 19) 48 (by decide) W)
      have e19 : (s.extract 0 19).data.toList = s.data.toList.take 19 := by rw [bytes_extract, List.drop_zero]
      have e20 : (s.extract 19 s.size).data.toList = s.data.toList.drop 19 := by rw [bytes_extract, List.take_of_length_le (by rw [bytes_len]; exact Nat.le_refl _)]
      rw [e19] at HTR
      obtain ⟨b, hb⟩ : ∃ b, b = (⟨(Lib.trimLeftB (s.data.toList.take 19) 48).toArray⟩ : ByteArray) ++ s.extract 19 s.size := ⟨_, rfl⟩
      have hbl : b.data.toList = Lib.trimLeftB (s.data.toList.take 19) 48 ++ s.data.toList.drop 19 := by rw [hb, bytes_append, e20]
      have hl1 : (s.data.toList.drop 19).length = 1 := by rw [List.length_drop, bytes_len]; omega
      have hl2 := trim_len (s.data.toList.take 19)
      rw [List.length_take, bytes_len] at hl2
      have hbv : valL b.data.toList = valL s.data.toList := by rw [hbl, trim_val, List.take_append_drop]
      have hbs : b.size = (Lib.trimLeftB (s.data.toList.take 19) 48).length + 1 := by rw [← bytes_len, hbl, List.length_append, hl1]
      have hsv := valL_lt s.data.toList hdig
      rw [bytes_len, h20] at hsv
      have HRD := Lib.hid (fun W => Read.read_any b W (by omega) (by omega) (by rw [hbl]; exact trim_dig _ _ (by rw [List.take_append_drop]; exact hdig)) (by
        rcases trim_head (s.data.toList.take 19) (s.data.toList.drop 19) hl1 with h | h
        · left; rw [← bytes_len, hbl]; exact h
        · right; rw [hbl]; exact h) (by rw [hbv]; omega))
      rw [hbv] at HRD
      have z1 : (⟨(Lib.trimLeftB (s.data.toList.take 19) 48).toArray⟩ : ByteArray).size ≤ 19 := by
        rw [← bytes_len]
        simp only [List.toList_toArray]
        omega
      have z2 : (s.extract 19 s.size).size = 1 := by rw [← bytes_len, e20, hl1]
      clear e19 e20 hbl hl1 hl2 hbv hbs h20 hall
      generalize (⟨(Lib.trimLeftB (s.data.toList.take 19) 48).toArray⟩ : ByteArray) = tl at *
      have hcat : ¬ 9223372036854775807 < tl.size + 1 := by omega
      have HBB := Lib.hid hb
      clear hb
      obtain ⟨N, hN⟩ : ∃ N, N = valL s.data.toList := ⟨_, rfl⟩
      have hER := parse_steps s.data.toList (by rw [bytes_len]; exact HSZ.out) hdig
      rw [← hN] at hER HRD hsv
      rw [← HPE.out, ← HPT.out] at hER
      have HER := Lib.hid hER
      rw [show Read.wOf N = wN N from rfl] at HRD
      have HN96 : N < 79228162514264337593543950336 := by omega
      have HOV := Lib.hid (fun W => over_w N W HN96)
      have hq0 : N / 97 < 79228162514264337593543950336 := by omega
      have HF1 := Lib.hid (fun p W h => field_w (N / 97) 0 16 0 16 16 _ p W (bits_tag _).symm rfl rfl rfl hq0 (by omega) (by omega) (by omega) h)
      have HF2 := Lib.hid (fun p W h => field_w (N / 97) 16 21 16 21 37 _ p W (bits_am _).symm rfl rfl rfl hq0 (by omega) (by omega) (by omega) h)
      have HF3 := Lib.hid (fun p W h => field_w (N / 97) 37 20 37 20 57 _ p W (bits_id _).symm rfl rfl rfl hq0 (by omega) (by omega) (by omega) h)
      have HF4 := Lib.hid (fun p W h => field_w (N / 97) 57 2 57 2 59 _ p W (bits_cl _).symm rfl rfl rfl hq0 (by omega) (by omega) (by omega) h)
      have HBT : Hid (∀ W, Calls Tryd.prog 43 #[.agg #[.int .u32 (wN (N / 97)).a, .int .u32 (wN (N / 97)).b, .int .u32 (wN (N / 97)).c], .int .i64 59, .int .i64 32] W fun e w' => e = .returned (.tuple #[.int .u64 (bitsN (N / 97) 59 32 : Nat), .int .i64 0]) ∧ Below W.heap.size W w') := Lib.hid (fun W => bits_w (N / 97) 59 32 W hq0 (by omega) (by omega) (by omega))
      have HFT := Lib.hid (fun W => fault_any (tokOf (N / 97)) W)
      unfold Tk.vals at HFT
      have hc : (wN N).c = ((N / 18446744073709551616 : Nat) : Int) := rfl
      have hc4 : 4 ≤ (wN N).c ↔ 73786976294838206464 ≤ N := by rw [hc]; omega
      have HC4 := Lib.hid hc4
      clear hER hc4 hc hN hsv HN96 hq0 HPT HPE
      obtain ⟨T0, hT0⟩ : ∃ t, t = tokOf (N / 97) := ⟨_, rfl⟩
      rw [← hT0] at HFT HF1 HF2 HF3 HF4 HER
      obtain ⟨fe, hfe⟩ : ∃ f, f = faultI T0 := ⟨_, rfl⟩
      obtain ⟨ab, hab⟩ : ∃ a, a = bitsN (N / 97) 59 32 := ⟨_, rfl⟩
      rw [← hfe] at HFT
      rw [← hab] at HBT
      have HSE : Hid (stepsE N = if 73786976294838206464 ≤ N then 2 else if N % 97 ≠ 0 then 8 else if ab ≠ 0 ∨ fe ≠ 0 then 2 else 0) := Lib.hid (by unfold stepsE; rw [hab, hfe, hT0])
      clear hab hfe
      generalize wN (N / 97) = y at *
      obtain ⟨lf, hlf⟩ : ∃ lf, lf = N % 97 := ⟨_, rfl⟩
      rw [← hlf] at HOV
      have HLF := Lib.hid hlf
      clear hlf
      clear hT0
      generalize wN N = x at *
      obtain ⟨x0, x1, x2⟩ := x
      obtain ⟨y0, y1, y2⟩ := y
      obtain ⟨cl, id, am, tag⟩ := T0
      simp only at HRD HOV HF1 HF2 HF3 HF4 HBT HFT HC4 HER
      go_upto_region 8 with fail
      go_cut [6] (fun s6 wx => s6 = .string b ∧ Cs wx w.heap.size [.int .i64 0, .int .i64 0, .int .i64 0, .int .i64 0] ∧ Below w.heap.size w wx)
      case first =>
        go_region_law (first | (go_simp; go_at_call 39; refine (HTR.out _).mono ?_; rintro e w1 ⟨rfl, rfl⟩))
        all_goals
          go_wp2_with fail
          go_meet
          exact ⟨by rw [HBB.out], CRP.out.drew, (HBH.out _).drew⟩
      case rest =>
        obtain ⟨rfl, hcr, hbc⟩ := hcut
        have CRc := Lib.hid hcr
        have HBc := Lib.hid hbc
        clear hcr hbc HBB hcat hle19 hle19i hmx z1 z2 hdig HTR hnx hp hp0 lr CRP HBH CRH hz HZW CR HB hBAD
        go_wp2_with (fail)
        go_at_call 40
        refine (HRD.out _).mono ?_
        rintro e w1 ⟨rfl, hb⟩
        have hwz1 := hb.size
        try simp at hwz1
        have HBw1 : Hid (Below w.heap.size w w1) := Lib.hid (below_then' (by repeat (first | with_reducible exact HBc.out | with_reducible refine blw_alloc ?_ _ | with_reducible refine Below.drew ?_ | with_reducible refine blw_step ?_ _ | with_reducible refine Below.setCell (p := ⟨_, _, none⟩) ?_ (by first | exact Nat.le_refl _ | (simp; done) | (simp; omega) | omega) _)) hb)
        have Crw1 : Hid (Cs w1 (w.heap.size) [.int .i64 0, .int .i64 0, .int .i64 0, .int .i64 0]) := Lib.hid ((show Cs _ (w.heap.size) [.int .i64 0, .int .i64 0, .int .i64 0, .int .i64 0] from (by (repeat (first | with_reducible exact CRc.out | (with_reducible refine Cs.new ?_; focus (first | rfl | (simp; done) | omega)) | with_reducible refine Cs.alloc ?_ _ | with_reducible refine Cs.drew ?_ | with_reducible refine Cs.drewN ?_ _ | (with_reducible refine Cs.other ?_ ?_ _; focus (first | omega | (simp; omega))) | with_reducible apply Cs.put)) <;> first | rfl | (simp; done))).after hb)
        clear hb
        have lrw1 := Crw1.out.1
        go_upto_region 10 with fail
        obtain ⟨v1, hv1⟩ : ∃ u, u = (w1.alloc (.cells #[.int .u32 x0, .int .u32 x1, .int .u32 x2] 95)) := ⟨_, rfl⟩
        have HBv1 : Hid (Below w.heap.size w v1) := Lib.hid (by rw [hv1]; exact blw_alloc (HBw1.out) _)
        have Crv1 : Hid (Cs v1 (w.heap.size) [.int .i64 0, .int .i64 0, .int .i64 0, .int .i64 0]) := Lib.hid (by rw [hv1]; exact Cs.alloc (Crw1.out) _)
        have Cxv1 : Hid (Cs v1 (w1.heap.size) [.int .u32 x0, .int .u32 x1, .int .u32 x2]) := Lib.hid (by rw [hv1]; exact Cs.new (by simp))
        have hzv1 : w1.heap.size < v1.heap.size := by rw [hv1]; simp
        rw [← hv1]
        clear hv1
        have lrv1 := Crv1.out.1
        have rv1g0 := (Crv1.out.at 0 rfl).1
        have rv1f0 := (Crv1.out.at 0 rfl).2
        have rv1g1 := (Crv1.out.at 1 rfl).1
        have rv1f1 := (Crv1.out.at 1 rfl).2
        have rv1g2 := (Crv1.out.at 2 rfl).1
        have rv1f2 := (Crv1.out.at 2 rfl).2
        have rv1g3 := (Crv1.out.at 3 rfl).1
        have rv1f3 := (Crv1.out.at 3 rfl).2
        have lxv1 := Cxv1.out.1
        have xv1g0 := (Cxv1.out.at 0 rfl).1
        have xv1g1 := (Cxv1.out.at 1 rfl).1
        have xv1g2 := (Cxv1.out.at 2 rfl).1
        by_cases h4 : 4 ≤ x2
        · have hpe : PE = 2 := by
            rw [HER.out.1]
            rw [HSE.out]
            rw [if_pos (HC4.out.1 h4)]
          have hpt := HT.out (by rw [hpe]; decide)
          go_wp2_with fail
          refine bodyPost_ret (v := .tuple #[.agg #[.int .i64 0, .int .i64 0, .int .i64 0, .int .i64 0], .int .i64 2]) (by simp [results, Tryd.results18, go_sem, rv1g0, rv1f0, rv1g1, rv1f1, rv1g2, rv1f2, rv1g3, rv1f3]) rfl ⟨by rw [hpe, hpt], ?_⟩
          exact ((((HBv1.out.setCell (p := ⟨w.heap.size, 0, none⟩) (Nat.le_refl _) _).setCell (p := ⟨w.heap.size, 1, none⟩) (Nat.le_refl _) _).setCell (p := ⟨w.heap.size, 2, none⟩) (Nat.le_refl _) _).setCell (p := ⟨w.heap.size, 3, none⟩) (Nat.le_refl _) _)
        have hN66 : ¬ 73786976294838206464 ≤ N := fun h => h4 (HC4.out.2 h)
        have HN66 := Lib.hid hN66
        have h4f : x2 < 4 := by omega
        clear hN66 h4
        go_wp2_with (fail)
        go_at_call 41
        refine (HOV.out _).mono ?_
        rintro e w2 ⟨rfl, hb⟩
        have hwz2 := hb.size
        try simp at hwz2
        have HBw2 : Hid (Below w.heap.size w w2) := Lib.hid (below_then' (by repeat (first | with_reducible exact HBv1.out | with_reducible refine blw_alloc ?_ _ | with_reducible refine Below.drew ?_ | with_reducible refine blw_step ?_ _ | with_reducible refine Below.setCell (p := ⟨_, _, none⟩) ?_ (by first | exact Nat.le_refl _ | (simp; done) | (simp; omega) | omega) _)) hb)
        have Crw2 : Hid (Cs w2 (w.heap.size) [.int .i64 0, .int .i64 0, .int .i64 0, .int .i64 0]) := Lib.hid ((show Cs _ (w.heap.size) [.int .i64 0, .int .i64 0, .int .i64 0, .int .i64 0] from (by (repeat (first | with_reducible exact Crv1.out | (with_reducible refine Cs.new ?_; focus (first | rfl | (simp; done) | omega)) | with_reducible refine Cs.alloc ?_ _ | with_reducible refine Cs.drew ?_ | with_reducible refine Cs.drewN ?_ _ | (with_reducible refine Cs.other ?_ ?_ _; focus (first | omega | (simp; omega))) | with_reducible apply Cs.put)) <;> first | rfl | (simp; done))).after hb)
        clear rv1g0 rv1f0 rv1g1 rv1f1 rv1g2 rv1f2 rv1g3 rv1f3 xv1g0 xv1g1 xv1g2 hb
        have lrw2 := Crw2.out.1
        go_upto_region 13 with fail
        obtain ⟨v2, hv2⟩ : ∃ u, u = (w2.alloc (.cells #[.int .u32 y0, .int .u32 y1, .int .u32 y2] 95)) := ⟨_, rfl⟩
        have HBv2 : Hid (Below w.heap.size w v2) := Lib.hid (by rw [hv2]; exact blw_alloc (HBw2.out) _)
        have Crv2 : Hid (Cs v2 (w.heap.size) [.int .i64 0, .int .i64 0, .int .i64 0, .int .i64 0]) := Lib.hid (by rw [hv2]; exact Cs.alloc (Crw2.out) _)
        have Cyv2 : Hid (Cs v2 (w2.heap.size) [.int .u32 y0, .int .u32 y1, .int .u32 y2]) := Lib.hid (by rw [hv2]; exact Cs.new (by simp))
        have hzv2 : w2.heap.size < v2.heap.size := by rw [hv2]; simp
        rw [← hv2]
        clear hv2
        have lrv2 := Crv2.out.1
        have rv2g0 := (Crv2.out.at 0 rfl).1
        have rv2f0 := (Crv2.out.at 0 rfl).2
        have rv2g1 := (Crv2.out.at 1 rfl).1
        have rv2f1 := (Crv2.out.at 1 rfl).2
        have rv2g2 := (Crv2.out.at 2 rfl).1
        have rv2f2 := (Crv2.out.at 2 rfl).2
        have rv2g3 := (Crv2.out.at 3 rfl).1
        have rv2f3 := (Crv2.out.at 3 rfl).2
        have lyv2 := Cyv2.out.1
        by_cases hl : lf ≠ 0
        · have hpe : PE = 8 := by
            rw [HER.out.1]
            rw [HSE.out]
            rw [if_neg HN66.out, if_pos (by rw [← HLF.out]; exact hl)]
          have hpt := HT.out (by rw [hpe]; decide)
          have hlb : (((lf : Nat) : Int) != 0) = true := bne_iff_ne.mpr (by omega)
          go_wp2_with fail
          refine bodyPost_ret (v := .tuple #[.agg #[.int .i64 0, .int .i64 0, .int .i64 0, .int .i64 0], .int .i64 8]) (by simp [results, Tryd.results18, go_sem, rv2g0, rv2f0, rv2g1, rv2f1, rv2g2, rv2f2, rv2g3, rv2f3]) rfl ⟨by rw [hpe, hpt], ?_⟩
          exact ((((HBv2.out.setCell (p := ⟨w.heap.size, 0, none⟩) (Nat.le_refl _) _).setCell (p := ⟨w.heap.size, 1, none⟩) (Nat.le_refl _) _).setCell (p := ⟨w.heap.size, 2, none⟩) (Nat.le_refl _) _).setCell (p := ⟨w.heap.size, 3, none⟩) (Nat.le_refl _) _)
        obtain rfl : lf = 0 := Decidable.not_not.1 hl
        clear hl
        go_upto_region 17 with fail
        obtain ⟨v3, hv3⟩ : ∃ u, u = ((v2.alloc (.cells #[.int .i64 0, .int .i64 0, .int .i64 0, .int .i64 0] 27)).alloc (.cells #[.int .i64 0] 3)) := ⟨_, rfl⟩
        have HBv3 : Hid (Below w.heap.size w v3) := Lib.hid (by rw [hv3]; exact blw_alloc (blw_alloc (HBv2.out) _) _)
        have Crv3 : Hid (Cs v3 (w.heap.size) [.int .i64 0, .int .i64 0, .int .i64 0, .int .i64 0]) := Lib.hid (by rw [hv3]; exact Cs.alloc (Cs.alloc (Crv2.out) _) _)
        have Cyv3 : Hid (Cs v3 (w2.heap.size) [.int .u32 y0, .int .u32 y1, .int .u32 y2]) := Lib.hid (by rw [hv3]; exact Cs.alloc (Cs.alloc (Cyv2.out) _) _)
        have Ctv3 : Hid (Cs v3 (v2.heap.size) [.int .i64 0, .int .i64 0, .int .i64 0, .int .i64 0]) := Lib.hid (by rw [hv3]; exact Cs.alloc (Cs.new (by simp)) _)
        have Cav3 : Hid (Cs v3 (v2.heap.size + 1) [.int .i64 0]) := Lib.hid (by rw [hv3]; exact Cs.new (by simp))
        have hzv3 : v2.heap.size < v3.heap.size := by rw [hv3]; simp; omega
        rw [← hv3]
        clear hv3
        clear rv2g0 rv2f0 rv2g1 rv2f1 rv2g2 rv2f2 rv2g3 rv2f3
        have lrv3 := Crv3.out.1
        have lyv3 := Cyv3.out.1
        have yv3g0 := (Cyv3.out.at 0 rfl).1
        have yv3g1 := (Cyv3.out.at 1 rfl).1
        have yv3g2 := (Cyv3.out.at 2 rfl).1
        have ltv3 := Ctv3.out.1
        have lav3 := Cav3.out.1
        have hv3s : v2.heap.size + 1 < v3.heap.size := Cav3.out.1
        have nta : v2.heap.size ≠ v2.heap.size + 1 := by omega
        have nat : v2.heap.size + 1 ≠ v2.heap.size := by omega
        have nyt : w2.heap.size ≠ v2.heap.size := by omega
        have nya : w2.heap.size ≠ v2.heap.size + 1 := by omega
        have nrt : w.heap.size ≠ v2.heap.size := by omega
        have nra : w.heap.size ≠ v2.heap.size + 1 := by omega
        go_wp2_with (fail)
        go_at_call 42
        refine (HF1.out _ _ Cav3.out).mono ?_
        rintro e u0_ ⟨rfl, ha, ho, hb⟩
        have Cau0_ : Hid (Cs u0_ (v2.heap.size + 1) [.int .i64 16]) := Lib.hid ha
        have Cru0_ := Lib.hid (ho _ _ nra Crv3.out)
        have Cyu0_ := Lib.hid (ho _ _ nya Cyv3.out)
        have Ctu0_ := Lib.hid (ho _ _ nta Ctv3.out)
        have HBu0_ := Lib.hid (HBv3.out.trans (hb w.heap.size (by omega) HBv3.out.size))
        clear ha ho hb yv3g0 yv3g1 yv3g2
        have tc := (Ctu0_.out.at 3 rfl).1
        have tf := (Ctu0_.out.at 3 rfl).2
        have lt := Ctu0_.out.1
        go_upto_region 18 with fail
        obtain ⟨v4, hv4⟩ : ∃ u, u = (u0_.setCell ⟨v2.heap.size, 3, none⟩ (.int .i64 tag)) := ⟨_, rfl⟩
        have Ctv4 : Hid (Cs v4 (v2.heap.size) [.int .i64 0, .int .i64 0, .int .i64 0, .int .i64 tag]) := Lib.hid (by rw [hv4]; exact Cs.put (i := 3) Ctu0_.out (by simp) rfl)
        have Cav4 : Hid (Cs v4 (v2.heap.size + 1) [.int .i64 16]) := Lib.hid (by rw [hv4]; exact Cs.other (a := ⟨v2.heap.size, 3, none⟩) nta Cau0_.out _)
        have Crv4 : Hid (Cs v4 (w.heap.size) [.int .i64 0, .int .i64 0, .int .i64 0, .int .i64 0]) := Lib.hid (by rw [hv4]; exact Cs.other (a := ⟨v2.heap.size, 3, none⟩) nrt.symm Cru0_.out _)
        have Cyv4 : Hid (Cs v4 (w2.heap.size) [.int .u32 y0, .int .u32 y1, .int .u32 y2]) := Lib.hid (by rw [hv4]; exact Cs.other (a := ⟨v2.heap.size, 3, none⟩) nyt.symm Cyu0_.out _)
        have HBv4 : Hid (Below w.heap.size w v4) := Lib.hid (by rw [hv4]; exact HBu0_.out.setCell (p := ⟨v2.heap.size, 3, none⟩) (by simp; omega) _)
        rw [← hv4]
        clear hv4 tc tf lt
        have lrv4 := Crv4.out.1
        have lyv4 := Cyv4.out.1
        have yv4g0 := (Cyv4.out.at 0 rfl).1
        have yv4g1 := (Cyv4.out.at 1 rfl).1
        have yv4g2 := (Cyv4.out.at 2 rfl).1
        have ltv4 := Ctv4.out.1
        have lav4 := Cav4.out.1
        go_wp2_with (fail)
        go_at_call 42
        refine (HF2.out _ _ Cav4.out).mono ?_
        rintro e u1_ ⟨rfl, ha, ho, hb⟩
        have Cau1_ : Hid (Cs u1_ (v2.heap.size + 1) [.int .i64 37]) := Lib.hid ha
        have Cru1_ := Lib.hid (ho _ _ nra Crv4.out)
        have Cyu1_ := Lib.hid (ho _ _ nya Cyv4.out)
        have Ctu1_ := Lib.hid (ho _ _ nta Ctv4.out)
        have HBu1_ := Lib.hid (HBv4.out.trans (hb w.heap.size (by omega) HBv4.out.size))
        clear ha ho hb yv4g0 yv4g1 yv4g2
        have tc := (Ctu1_.out.at 2 rfl).1
        have tf := (Ctu1_.out.at 2 rfl).2
        have lt := Ctu1_.out.1
        go_upto_region 19 with fail
        obtain ⟨v5, hv5⟩ : ∃ u, u = (u1_.setCell ⟨v2.heap.size, 2, none⟩ (.int .i64 am)) := ⟨_, rfl⟩
        have Ctv5 : Hid (Cs v5 (v2.heap.size) [.int .i64 0, .int .i64 0, .int .i64 am, .int .i64 tag]) := Lib.hid (by rw [hv5]; exact Cs.put (i := 2) Ctu1_.out (by simp) rfl)
        have Cav5 : Hid (Cs v5 (v2.heap.size + 1) [.int .i64 37]) := Lib.hid (by rw [hv5]; exact Cs.other (a := ⟨v2.heap.size, 2, none⟩) nta Cau1_.out _)
        have Crv5 : Hid (Cs v5 (w.heap.size) [.int .i64 0, .int .i64 0, .int .i64 0, .int .i64 0]) := Lib.hid (by rw [hv5]; exact Cs.other (a := ⟨v2.heap.size, 2, none⟩) nrt.symm Cru1_.out _)
        have Cyv5 : Hid (Cs v5 (w2.heap.size) [.int .u32 y0, .int .u32 y1, .int .u32 y2]) := Lib.hid (by rw [hv5]; exact Cs.other (a := ⟨v2.heap.size, 2, none⟩) nyt.symm Cyu1_.out _)
        have HBv5 : Hid (Below w.heap.size w v5) := Lib.hid (by rw [hv5]; exact HBu1_.out.setCell (p := ⟨v2.heap.size, 2, none⟩) (by simp; omega) _)
        rw [← hv5]
        clear hv5 tc tf lt
        have lrv5 := Crv5.out.1
        have lyv5 := Cyv5.out.1
        have yv5g0 := (Cyv5.out.at 0 rfl).1
        have yv5g1 := (Cyv5.out.at 1 rfl).1
        have yv5g2 := (Cyv5.out.at 2 rfl).1
        have ltv5 := Ctv5.out.1
        have lav5 := Cav5.out.1
        go_wp2_with (fail)
        go_at_call 42
        refine (HF3.out _ _ Cav5.out).mono ?_
        rintro e u2_ ⟨rfl, ha, ho, hb⟩
        have Cau2_ : Hid (Cs u2_ (v2.heap.size + 1) [.int .i64 57]) := Lib.hid ha
        have Cru2_ := Lib.hid (ho _ _ nra Crv5.out)
        have Cyu2_ := Lib.hid (ho _ _ nya Cyv5.out)
        have Ctu2_ := Lib.hid (ho _ _ nta Ctv5.out)
        have HBu2_ := Lib.hid (HBv5.out.trans (hb w.heap.size (by omega) HBv5.out.size))
        clear ha ho hb yv5g0 yv5g1 yv5g2
        have tc := (Ctu2_.out.at 1 rfl).1
        have tf := (Ctu2_.out.at 1 rfl).2
        have lt := Ctu2_.out.1
        go_upto_region 20 with fail
        obtain ⟨v6, hv6⟩ : ∃ u, u = (u2_.setCell ⟨v2.heap.size, 1, none⟩ (.int .i64 id)) := ⟨_, rfl⟩
        have Ctv6 : Hid (Cs v6 (v2.heap.size) [.int .i64 0, .int .i64 id, .int .i64 am, .int .i64 tag]) := Lib.hid (by rw [hv6]; exact Cs.put (i := 1) Ctu2_.out (by simp) rfl)
        have Cav6 : Hid (Cs v6 (v2.heap.size + 1) [.int .i64 57]) := Lib.hid (by rw [hv6]; exact Cs.other (a := ⟨v2.heap.size, 1, none⟩) nta Cau2_.out _)
        have Crv6 : Hid (Cs v6 (w.heap.size) [.int .i64 0, .int .i64 0, .int .i64 0, .int .i64 0]) := Lib.hid (by rw [hv6]; exact Cs.other (a := ⟨v2.heap.size, 1, none⟩) nrt.symm Cru2_.out _)
        have Cyv6 : Hid (Cs v6 (w2.heap.size) [.int .u32 y0, .int .u32 y1, .int .u32 y2]) := Lib.hid (by rw [hv6]; exact Cs.other (a := ⟨v2.heap.size, 1, none⟩) nyt.symm Cyu2_.out _)
        have HBv6 : Hid (Below w.heap.size w v6) := Lib.hid (by rw [hv6]; exact HBu2_.out.setCell (p := ⟨v2.heap.size, 1, none⟩) (by simp; omega) _)
        rw [← hv6]
        clear hv6 tc tf lt
        have lrv6 := Crv6.out.1
        have lyv6 := Cyv6.out.1
        have yv6g0 := (Cyv6.out.at 0 rfl).1
        have yv6g1 := (Cyv6.out.at 1 rfl).1
        have yv6g2 := (Cyv6.out.at 2 rfl).1
        have ltv6 := Ctv6.out.1
        have lav6 := Cav6.out.1
        go_wp2_with (fail)
        go_at_call 42
        refine (HF4.out _ _ Cav6.out).mono ?_
        rintro e u3_ ⟨rfl, ha, ho, hb⟩
        have Cau3_ : Hid (Cs u3_ (v2.heap.size + 1) [.int .i64 59]) := Lib.hid ha
        have Cru3_ := Lib.hid (ho _ _ nra Crv6.out)
        have Cyu3_ := Lib.hid (ho _ _ nya Cyv6.out)
        have Ctu3_ := Lib.hid (ho _ _ nta Ctv6.out)
        have HBu3_ := Lib.hid (HBv6.out.trans (hb w.heap.size (by omega) HBv6.out.size))
        clear ha ho hb yv6g0 yv6g1 yv6g2
        have tc := (Ctu3_.out.at 0 rfl).1
        have tf := (Ctu3_.out.at 0 rfl).2
        have lt := Ctu3_.out.1
        go_upto_region 21 with fail
        obtain ⟨v7, hv7⟩ : ∃ u, u = (u3_.setCell ⟨v2.heap.size, 0, none⟩ (.int .i64 cl)) := ⟨_, rfl⟩
        have Ctv7 : Hid (Cs v7 (v2.heap.size) [.int .i64 cl, .int .i64 id, .int .i64 am, .int .i64 tag]) := Lib.hid (by rw [hv7]; exact Cs.put (i := 0) Ctu3_.out (by simp) rfl)
        have Cav7 : Hid (Cs v7 (v2.heap.size + 1) [.int .i64 59]) := Lib.hid (by rw [hv7]; exact Cs.other (a := ⟨v2.heap.size, 0, none⟩) nta Cau3_.out _)
        have Crv7 : Hid (Cs v7 (w.heap.size) [.int .i64 0, .int .i64 0, .int .i64 0, .int .i64 0]) := Lib.hid (by rw [hv7]; exact Cs.other (a := ⟨v2.heap.size, 0, none⟩) nrt.symm Cru3_.out _)
        have Cyv7 : Hid (Cs v7 (w2.heap.size) [.int .u32 y0, .int .u32 y1, .int .u32 y2]) := Lib.hid (by rw [hv7]; exact Cs.other (a := ⟨v2.heap.size, 0, none⟩) nyt.symm Cyu3_.out _)
        have HBv7 : Hid (Below w.heap.size w v7) := Lib.hid (by rw [hv7]; exact HBu3_.out.setCell (p := ⟨v2.heap.size, 0, none⟩) (by simp; omega) _)
        rw [← hv7]
        clear hv7 tc tf lt
        have lrv7 := Crv7.out.1
        have lyv7 := Cyv7.out.1
        have yv7g0 := (Cyv7.out.at 0 rfl).1
        have yv7g1 := (Cyv7.out.at 1 rfl).1
        have yv7g2 := (Cyv7.out.at 2 rfl).1
        have ltv7 := Ctv7.out.1
        have lav7 := Cav7.out.1
        have av7g0 := (Cav7.out.at 0 rfl).1
        go_wp2_with (fail)
        go_at_call 43
        refine (HBT.out _).mono ?_
        rintro e w3 ⟨rfl, hb⟩
        have hwz3 := hb.size
        try simp at hwz3
        have HBw3 : Hid (Below w.heap.size w w3) := Lib.hid (below_then' (by repeat (first | with_reducible exact HBv7.out | with_reducible refine blw_alloc ?_ _ | with_reducible refine Below.drew ?_ | with_reducible refine blw_step ?_ _ | with_reducible refine Below.setCell (p := ⟨_, _, none⟩) ?_ (by first | exact Nat.le_refl _ | (simp; done) | (simp; omega) | omega) _)) hb)
        have Crw3 : Hid (Cs w3 (w.heap.size) [.int .i64 0, .int .i64 0, .int .i64 0, .int .i64 0]) := Lib.hid ((show Cs _ (w.heap.size) [.int .i64 0, .int .i64 0, .int .i64 0, .int .i64 0] from (by (repeat (first | with_reducible exact Crv7.out | (with_reducible refine Cs.new ?_; focus (first | rfl | (simp; done) | omega)) | with_reducible refine Cs.alloc ?_ _ | with_reducible refine Cs.drew ?_ | with_reducible refine Cs.drewN ?_ _ | (with_reducible refine Cs.other ?_ ?_ _; focus (first | omega | (simp; omega))) | with_reducible apply Cs.put)) <;> first | rfl | (simp; done))).after hb)
        have Ctw3 : Hid (Cs w3 (v2.heap.size) [.int .i64 cl, .int .i64 id, .int .i64 am, .int .i64 tag]) := Lib.hid ((show Cs _ (v2.heap.size) [.int .i64 cl, .int .i64 id, .int .i64 am, .int .i64 tag] from (by (repeat (first | with_reducible exact Ctv7.out | (with_reducible refine Cs.new ?_; focus (first | rfl | (simp; done) | omega)) | with_reducible refine Cs.alloc ?_ _ | with_reducible refine Cs.drew ?_ | with_reducible refine Cs.drewN ?_ _ | (with_reducible refine Cs.other ?_ ?_ _; focus (first | omega | (simp; omega))) | with_reducible apply Cs.put)) <;> first | rfl | (simp; done))).after hb)
        clear yv7g0 yv7g1 yv7g2 av7g0 hb
        have lrw3 := Crw3.out.1
        have rw3g0 := (Crw3.out.at 0 rfl).1
        have rw3f0 := (Crw3.out.at 0 rfl).2
        have rw3g1 := (Crw3.out.at 1 rfl).1
        have rw3f1 := (Crw3.out.at 1 rfl).2
        have rw3g2 := (Crw3.out.at 2 rfl).1
        have rw3f2 := (Crw3.out.at 2 rfl).2
        have rw3g3 := (Crw3.out.at 3 rfl).1
        have rw3f3 := (Crw3.out.at 3 rfl).2
        have ltw3 := Ctw3.out.1
        have tw3g0 := (Ctw3.out.at 0 rfl).1
        have tw3g1 := (Ctw3.out.at 1 rfl).1
        have tw3g2 := (Ctw3.out.at 2 rfl).1
        have tw3g3 := (Ctw3.out.at 3 rfl).1
        have HSP := HSE.out
        rw [if_neg HN66.out, if_neg (by rw [← HLF.out]; simp)] at HSP
        have HS5 := Lib.hid HSP
        clear HSP
        by_cases hab : ab = 0
        case neg =>
          have hpe : PE = 2 := by rw [HER.out.1, HS5.out, if_pos (.inl hab)]
          have hpt := HT.out (by rw [hpe]; decide)
          have hab1 : (((ab : Nat) : Int) != 0) = true := bne_iff_ne.mpr (by omega)
          clear hab
          go_wp2_with fail
          refine bodyPost_ret (v := .tuple #[.agg #[.int .i64 0, .int .i64 0, .int .i64 0, .int .i64 0], .int .i64 2]) (by simp [results, Tryd.results18, go_sem, rw3g0, rw3f0, rw3g1, rw3f1, rw3g2, rw3f2, rw3g3, rw3f3]) rfl ⟨by rw [hpe, hpt], ?_⟩
          exact ((((HBw3.out.setCell (p := ⟨w.heap.size, 0, none⟩) (Nat.le_refl _) _).setCell (p := ⟨w.heap.size, 1, none⟩) (Nat.le_refl _) _).setCell (p := ⟨w.heap.size, 2, none⟩) (Nat.le_refl _) _).setCell (p := ⟨w.heap.size, 3, none⟩) (Nat.le_refl _) _)
        subst hab
        by_cases hfe : fe = 0
        case neg =>
          have hpe : PE = 2 := by rw [HER.out.1, HS5.out, if_pos (.inr hfe)]
          have hpt := HT.out (by rw [hpe]; decide)
          have hfe1 : (fe != 0) = true := bne_iff_ne.mpr hfe
          clear hfe
          go_wp2_with (fail)
          go_at_call 44
          refine (HFT.out _).mono ?_
          rintro e w4 ⟨rfl, hb⟩
          have hwz4 := hb.size
          try simp at hwz4
          have HBw4 : Hid (Below w.heap.size w w4) := Lib.hid (below_then' (by repeat (first | with_reducible exact HBw3.out | with_reducible refine blw_alloc ?_ _ | with_reducible refine Below.drew ?_ | with_reducible refine blw_step ?_ _ | with_reducible refine Below.setCell (p := ⟨_, _, none⟩) ?_ (by first | exact Nat.le_refl _ | (simp; done) | (simp; omega) | omega) _)) hb)
          have Crw4 : Hid (Cs w4 (w.heap.size) [.int .i64 0, .int .i64 0, .int .i64 0, .int .i64 0]) := Lib.hid ((show Cs _ (w.heap.size) [.int .i64 0, .int .i64 0, .int .i64 0, .int .i64 0] from (by (repeat (first | with_reducible exact Crw3.out | (with_reducible refine Cs.new ?_; focus (first | rfl | (simp; done) | omega)) | with_reducible refine Cs.alloc ?_ _ | with_reducible refine Cs.drew ?_ | with_reducible refine Cs.drewN ?_ _ | (with_reducible refine Cs.other ?_ ?_ _; focus (first | omega | (simp; omega))) | with_reducible apply Cs.put)) <;> first | rfl | (simp; done))).after hb)
          clear rw3g0 rw3f0 rw3g1 rw3f1 rw3g2 rw3f2 rw3g3 rw3f3 tw3g0 tw3g1 tw3g2 tw3g3 hb
          have lrw4 := Crw4.out.1
          have rw4g0 := (Crw4.out.at 0 rfl).1
          have rw4f0 := (Crw4.out.at 0 rfl).2
          have rw4g1 := (Crw4.out.at 1 rfl).1
          have rw4f1 := (Crw4.out.at 1 rfl).2
          have rw4g2 := (Crw4.out.at 2 rfl).1
          have rw4f2 := (Crw4.out.at 2 rfl).2
          have rw4g3 := (Crw4.out.at 3 rfl).1
          have rw4f3 := (Crw4.out.at 3 rfl).2
          go_wp2_with fail
          refine bodyPost_ret (v := .tuple #[.agg #[.int .i64 0, .int .i64 0, .int .i64 0, .int .i64 0], .int .i64 2]) (by simp [results, Tryd.results18, go_sem, rw4g0, rw4f0, rw4g1, rw4f1, rw4g2, rw4f2, rw4g3, rw4f3]) rfl ⟨by rw [hpe, hpt], ?_⟩
          exact ((((HBw4.out.setCell (p := ⟨w.heap.size, 0, none⟩) (Nat.le_refl _) _).setCell (p := ⟨w.heap.size, 1, none⟩) (Nat.le_refl _) _).setCell (p := ⟨w.heap.size, 2, none⟩) (Nat.le_refl _) _).setCell (p := ⟨w.heap.size, 3, none⟩) (Nat.le_refl _) _)
        subst hfe
        have hpe : PE = 0 := by rw [HER.out.1, HS5.out, if_neg (by simp)]
        have hpt := HER.out.2 hpe
        go_wp2_with (fail)
        go_at_call 44
        refine (HFT.out _).mono ?_
        rintro e w4 ⟨rfl, hb⟩
        have hwz4 := hb.size
        try simp at hwz4
        have HBw4 : Hid (Below w.heap.size w w4) := Lib.hid (below_then' (by repeat (first | with_reducible exact HBw3.out | with_reducible refine blw_alloc ?_ _ | with_reducible refine Below.drew ?_ | with_reducible refine blw_step ?_ _ | with_reducible refine Below.setCell (p := ⟨_, _, none⟩) ?_ (by first | exact Nat.le_refl _ | (simp; done) | (simp; omega) | omega) _)) hb)
        have Crw4 : Hid (Cs w4 (w.heap.size) [.int .i64 0, .int .i64 0, .int .i64 0, .int .i64 0]) := Lib.hid ((show Cs _ (w.heap.size) [.int .i64 0, .int .i64 0, .int .i64 0, .int .i64 0] from (by (repeat (first | with_reducible exact Crw3.out | (with_reducible refine Cs.new ?_; focus (first | rfl | (simp; done) | omega)) | with_reducible refine Cs.alloc ?_ _ | with_reducible refine Cs.drew ?_ | with_reducible refine Cs.drewN ?_ _ | (with_reducible refine Cs.other ?_ ?_ _; focus (first | omega | (simp; omega))) | with_reducible apply Cs.put)) <;> first | rfl | (simp; done))).after hb)
        have Ctw4 : Hid (Cs w4 (v2.heap.size) [.int .i64 cl, .int .i64 id, .int .i64 am, .int .i64 tag]) := Lib.hid ((show Cs _ (v2.heap.size) [.int .i64 cl, .int .i64 id, .int .i64 am, .int .i64 tag] from (by (repeat (first | with_reducible exact Ctw3.out | (with_reducible refine Cs.new ?_; focus (first | rfl | (simp; done) | omega)) | with_reducible refine Cs.alloc ?_ _ | with_reducible refine Cs.drew ?_ | with_reducible refine Cs.drewN ?_ _ | (with_reducible refine Cs.other ?_ ?_ _; focus (first | omega | (simp; omega))) | with_reducible apply Cs.put)) <;> first | rfl | (simp; done))).after hb)
        clear rw3g0 rw3f0 rw3g1 rw3f1 rw3g2 rw3f2 rw3g3 rw3f3 tw3g0 tw3g1 tw3g2 tw3g3 hb
        have lrw4 := Crw4.out.1
        have rw4g0 := (Crw4.out.at 0 rfl).1
        have rw4f0 := (Crw4.out.at 0 rfl).2
        have rw4g1 := (Crw4.out.at 1 rfl).1
        have rw4f1 := (Crw4.out.at 1 rfl).2
        have rw4g2 := (Crw4.out.at 2 rfl).1
        have rw4f2 := (Crw4.out.at 2 rfl).2
        have rw4g3 := (Crw4.out.at 3 rfl).1
        have rw4f3 := (Crw4.out.at 3 rfl).2
        have ltw4 := Ctw4.out.1
        have tw4g0 := (Ctw4.out.at 0 rfl).1
        have tw4g1 := (Ctw4.out.at 1 rfl).1
        have tw4g2 := (Ctw4.out.at 2 rfl).1
        have tw4g3 := (Ctw4.out.at 3 rfl).1
        go_wp2_with fail
        refine bodyPost_ret (v := .tuple #[.agg #[.int .i64 cl, .int .i64 id, .int .i64 am, .int .i64 tag], .int .i64 0]) (by simp [results, Tryd.results18, go_sem, rw4g0, rw4f0, rw4g1, rw4f1, rw4g2, rw4f2, rw4g3, rw4f3]) rfl ⟨by rw [hpe, hpt], ?_⟩
        exact ((((HBw4.out.setCell (p := ⟨w.heap.size, 0, none⟩) (Nat.le_refl _) _).setCell (p := ⟨w.heap.size, 1, none⟩) (Nat.le_refl _) _).setCell (p := ⟨w.heap.size, 2, none⟩) (Nat.le_refl _) _).setCell (p := ⟨w.heap.size, 3, none⟩) (Nat.le_refl _) _)
end Go.Proofs.YtccjcdecpgigpaaDoor.Tok
