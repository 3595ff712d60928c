/-
  NumMany's walk: many numbers at once.
-/
import Derived.Test.YtnljhdfmhhmdkaaOrder7
import Derived.Test.YtnljhdfmhhmdkaaRoom
namespace Go.Proofs.Ytnljhdfmhhmdkaa.Rd
open Go.RowKit Go.ChangeShapes Go.Proofs.YtnljhdfmhhmdkaaW.PrintWords Go.Proofs.YtnljhdfmhhmdkaaW.PrintLast Go.Proofs.YtnljhdfmhhmdkaaW.PrintMore
attribute [local go_sem] max2_int min2_int max_two min_two max_three min_three max_four min_four
set_option linter.unusedVariables false
set_option linter.unusedSimpArgs false

def InI64 (n : Int) : Prop := -9223372036854775808 ≤ n ∧ n ≤ 9223372036854775807
theorem numOf_be8 (n : Int) (h : InI64 n) : wrap64 (numOf (be8 n)) = n := by
  have d := digits n h.1 h.2
  have e : numOf (be8 n) = byteAt n 0 * 72057594037927936 + byteAt n 1 * 281474976710656 + byteAt n 2 * 1099511627776 + byteAt n 3 * 4294967296 + byteAt n 4 * 16777216 + byteAt n 5 * 65536 + byteAt n 6 * 256 + byteAt n 7 := by
    unfold numOf be8
    simp only [List.foldl_cons, List.foldl_nil]
    omega
  obtain ⟨h1, h2⟩ := h
  rw [e]
  unfold wrap64
  split at d <;> omega
theorem number1_be8 (n : Int) (h : InI64 n) (rest : List Int) : number1 (be8 n ++ rest) false = (n, rest, false) := by
  unfold number1
  rw [if_neg (by simp [be8_len])]
  rw [show (be8 n ++ rest).take 8 = be8 n from List.take_left' rfl, show (be8 n ++ rest).drop 8 = rest from List.drop_left' rfl, numOf_be8 n h]
theorem be8_byt (n : Int) : Byt (be8 n) := by
  intro b hb
  simp only [be8, List.mem_cons, List.not_mem_nil, or_false] at hb
  rcases hb with rfl | rfl | rfl | rfl | rfl | rfl | rfl | rfl <;> exact byteAt_bd n _
theorem be8s_byt (xs : List Int) : Byt (be8s xs) := by
  intro b hb
  simp only [be8s, List.mem_flatMap] at hb
  obtain ⟨x, _, hb⟩ := hb
  exact be8_byt x b hb
theorem be8s_cons (x : Int) (xs : List Int) : be8s (x :: xs) = be8 x ++ be8s xs := by simp [be8s]
theorem be8s_drop (xs : List Int) (k : Nat) (h : k < xs.length) : be8s (xs.drop k) = be8 (xs.getD k 0) ++ be8s (xs.drop (k + 1)) := by
  rw [List.drop_eq_getElem_cons h, be8s_cons, List.getD_eq_getElem?_getD, List.getElem?_eq_getElem h]
  rfl

theorem cut_i64 (A : Option Addr) (c : Nat) (l : List Int) (j : Int) (n : Nat) (hn : j.toNat = n) (h0 : 0 ≤ j) (hj : j ≤ l.length) (hc : l.length ≤ c) :
    (∀ W : World, (Instr.slice 31 (.slice A l.length c) none (some (.int .i64 j)) none).run Try.prog W = .ok (.slice A n c) W) ∧ (∀ w, Kd.C (Kd.int .i64) w A l.length l → Kd.C (Kd.int .i64) w A n (l.take n)) ∧ (l.take n).length = n := by
  obtain ⟨i0, hi0, _, hsz0, _⟩ := info_parts infoI64
  obtain ⟨h1, h2, h3⟩ := print_take_of (P := Try.prog) (Value.int .i64) 0 31 3 .i64 Try.underlying31 hi0 hsz0 A c l j h0 hj hc
  subst hn
  have hl : (l.take j.toNat).length = j.toNat := by rw [List.length_take]; omega
  rw [hl] at h1
  refine ⟨h1, fun w h => ?_, hl⟩
  have := Kd.C_of_reads (h1 := fun _ => rfl) (h2 w (Kd.reads_of_C h))
  rw [hl] at this
  exact this
theorem cut_u8 (A : Option Addr) (c : Nat) (l : List Int) (j : Int) (n : Nat) (hn : j.toNat = n) (h0 : 0 ≤ j) (hj : j ≤ l.length) (hc : l.length ≤ c) :
    (∀ W : World, (Instr.slice 24 (.slice A l.length c) none (some (.int .i64 j)) none).run Try.prog W = .ok (.slice A n c) W) ∧ (∀ w, Kd.C (Kd.int .u8) w A l.length l → Kd.C (Kd.int .u8) w A n (l.take n)) ∧ (l.take n).length = n := by
  obtain ⟨i0, hi0, _, hsz0, _⟩ := info_parts infoU8
  obtain ⟨h1, h2, h3⟩ := print_take_of (P := Try.prog) (Value.int .u8) 0 24 5 .i64 Try.underlying24 hi0 hsz0 A c l j h0 hj hc
  subst hn
  have hl : (l.take j.toNat).length = j.toNat := by rw [List.length_take]; omega
  rw [hl] at h1
  refine ⟨h1, fun w h => ?_, hl⟩
  have := Kd.C_of_reads (h1 := fun _ => rfl) (h2 w (Kd.reads_of_C h))
  rw [hl] at this
  exact this
theorem own_empty64 (w : World) : Kd.R (Kd.int .i64) 3 (w.alloc (.cells #[] 3)) w.heap.size (fun _ => True) (.slice (some ⟨w.heap.size, 0, none⟩) 0 0) [] :=
  ⟨fun _ _ => trivial, [], by show World.ownsRow _ _ _ 1 _ _ _; simpa using World.ownsRow_lit (base := w.heap.size) (e := 3) (size := 1) w #[] 0 (Nat.le_refl _) (by simp) rfl, Reps.none _ _⟩

/-- A slice of whole numbers that is read. -/
def SlI (w : World) (v : Value) (xs : List Int) : Prop := ∃ A c, v = .slice A xs.length c ∧ xs.length ≤ c ∧ Kd.C (Kd.int .i64) w A xs.length xs
def SlB (w : World) (v : Value) (xs : List Int) : Prop := ∃ A c, v = .slice A xs.length c ∧ xs.length ≤ c ∧ Kd.C (Kd.int .u8) w A xs.length xs

def zs8 (n : Nat) : Array Value := (nums .u8 (List.replicate n 0)).toArray
def zstr (n : Nat) : ByteArray := strOfNums (List.replicate n 0)
theorem made_zs8 (n : Nat) (hn : n ≤ 1000000) : ∀ W : World, (Instr.makeSlice 24 (.int .i64 (n : Int)) (.int .i64 (n : Int))).run Try.prog W = .ok (.slice (some ⟨W.heap.size, 0, none⟩) n n) (W.alloc (.cells (zs8 n) 5)) := by
  intro W
  obtain ⟨i0, hi0, hz0, hsz0, hb0⟩ := info_parts infoU8
  have h := run_make (P := Try.prog) W 24 5 i0 _ Try.underlying24 hi0 hz0 .i64 .i64 (n : Int) (n : Int) (by omega) (Int.le_refl _) (by rw [hb0]; omega) (by omega)
  simp only [Int.toNat_natCast, hsz0, Nat.mul_one] at h
  rw [h]
  congr 4
  apply Array.ext
  · simp [size_madeCells, zs8, nums]
  · intro i h1 h2
    simp [madeCells, zs8, nums, Value.cells, Nat.mod_one]
theorem C_zs8 (n : Nat) (W : World) (hn : n ≤ 1000000) : Kd.C (Kd.int .u8) (W.alloc (.cells (zs8 n) 5)) (some ⟨W.heap.size, 0, none⟩) n (List.replicate n 0) := by
  have := C_lit .u8 (List.replicate n 0) W 5 (by simp; omega)
  rw [List.length_replicate] at this
  exact this
theorem conv_zs8 (n : Nat) (W : World) (hn : n ≤ 1000000) : (convert 24 9 (.slice (some ⟨W.heap.size, 0, none⟩) n n)).run Try.prog (W.alloc (.cells (zs8 n) 5)) = .ok (.string (zstr n)) (W.alloc (.cells (zs8 n) 5)) :=
  Kd.C_string Try.underlying24 Try.underlying5 Try.underlying9 (C_zs8 n W hn)
theorem strOfNums_size (l : List Int) : (strOfNums l).size = l.length := by simp [strOfNums, ByteArray.size]
theorem zstr_size (n : Nat) : (zstr n).size = n := by unfold zstr; rw [strOfNums_size, List.length_replicate]

theorem strOfNums_bytesOf (s : ByteArray) : strOfNums (bytesOf s) = s := by
  obtain ⟨⟨l⟩⟩ := s
  simp only [strOfNums, bytesOf, List.map_map]
  congr 1
  have : ((fun n : Int => UInt8.ofNat n.toNat) ∘ fun b : UInt8 => (b.toNat : Int)) = id := by funext b; simp only [Function.comp, Int.toNat_natCast, UInt8.ofNat_toNat, id]
  simp [this]
theorem bytesOf_byt (s : ByteArray) : Byt (bytesOf s) := by
  intro b hb
  simp only [bytesOf, List.mem_map] at hb
  obtain ⟨c, _, rfl⟩ := hb
  have := c.toNat_lt
  omega
theorem bytesOf_size (s : ByteArray) : (bytesOf s).length = s.size := bytesOf_length s
theorem text1_text8 (s : ByteArray) (h : s.size ≤ 255) (rest : List Int) : text1 (text8 s ++ rest) false = (s, rest, false) := by
  unfold text8 text1
  rw [if_neg (by omega)]
  have hb : byte1 ((s.size : Int) :: bytesOf s ++ rest) false = ((s.size : Int), bytesOf s ++ rest, false) := by simp [byte1]
  rw [hb]
  unfold takes
  rw [if_neg (by simp only [Bool.false_eq_true, false_or, List.length_append, bytesOf_size]; omega)]
  simp only [Bool.false_eq_true, if_false, Int.toNat_natCast]
  rw [← bytesOf_size, List.take_left' rfl, List.drop_left' rfl, strOfNums_bytesOf]
theorem text8_len (s : ByteArray) (h : s.size ≤ 255) : (text8 s).length = s.size + 1 := by
  unfold text8; rw [if_neg (by omega)]; simp [bytesOf_size]
theorem text8_byt (s : ByteArray) : Byt (text8 s) := by
  unfold text8
  split
  · exact fun b hb => absurd hb (by simp)
  · intro b hb
    rcases List.mem_cons.1 hb with rfl | hb
    · omega
    · exact bytesOf_byt s b hb

theorem zs8_text (n : Nat) (hn : n ≤ 255) : text1 (text8 (zstr n)) false = (zstr n, [], false) := by
  have := text1_text8 (zstr n) (by rw [zstr_size]; exact hn) []
  rwa [List.append_nil] at this

set_option maxRecDepth 100000 in
set_option maxHeartbeats 1600000 in
theorem many_calls (A0 : Option Addr) (c0 : Nat) (l : List Int) (x : Int) (w : World) (hr : Kd.C (Kd.int .i64) w A0 l.length l) (hc : l.length ≤ c0) (hwf : ∀ n ∈ l, InI64 n) :
    Calls Try.prog 5 #[.slice A0 l.length c0, .int .i64 x] w fun e w' => e = .returned (.bool true) ∧ Below w.heap.size w w' := by
  have HR := Aside0.mk hr
  have HC := Aside0.mk hc
  have HW := Aside0.mk hwf
  clear hr hc hwf
  go_enter Try.func5, Try.ntmps5
  go_upto_region 1 with fail
  go_cut [5] (fun v wc => Aside0 (SlI wc v (l.take 12)) ∧ Aside0 (Below w.heap.size w wc))
  case first =>
    by_cases h12 : l.length ≤ 12
    · obtain ⟨hcut, hrd, hln⟩ := cut_i64 A0 c0 l (l.length : Int) l.length (by omega) (by omega) (by omega) HC.out
      have HO := Aside0.mk (hrd w HR.out)
      rw [List.take_length] at HO
      have HT : Hid (l.take 12 = l) := Lib.hid (List.take_of_length_le h12)
      clear hrd hln
      go_wp2_with (first | ((with_reducible refine gate_builtin (b := .append) (xs := #[.tmp 17, .tmp 22]) rfl ?_); at_builtin; refine Kd.R_append_row (Value.int .i64) (0 : Int) (h1 := fun _ => rfl) (w0 := w) (w.heap.size) rfl (.tmp 17) (.tmp 22) 31 3 (.int .i64 0) 8 rfl Try.underlying31 infoI64 rfl (by decide) (.slice (some ⟨w.heap.size, 0, none⟩) 0 0) ([]) (l) (A0) (l.length) (c0) (fun _ => True) rfl rfl (fun _ _ => trivial) ?aO ?aR ?aB ?aS ?aL ?_; (case aO => exact own_empty64 w); (case aR => exact Kd.C_alloc HO.out _); (case aB => exact below_alloc (Below.refl _ _) _); (case aS => exact (below_size (by exact below_alloc (Below.refl _ _) _))); (case aL => (first | omega | (simp; done) | (simp; omega))); intro v1 w1 ho hb hg hat; simp only [List.nil_append] at ho; obtain ⟨A1, c1, rfl, hc1, hr1⟩ := Kd.R_reads ho; have HO1 := Aside0.mk hr1; have HC1 := Aside0.mk hc1; have HB := Aside0.mk hb; clear ho hb hg hat hr1 hc1))
      go_meet
      case rel => exact ⟨⟨by rw [HT.out]; exact ⟨A1, c1, rfl, HC1.out, HO1.out⟩⟩, HB⟩
    · obtain ⟨hcut, hrd, hln⟩ := cut_i64 A0 c0 l 12 12 (by omega) (by omega) (by omega) HC.out
      have HO := Aside0.mk (hrd w HR.out)
      have HL := Lib.hid hln
      clear hrd hln
      go_wp2_with (first | ((with_reducible refine gate_builtin (b := .append) (xs := #[.tmp 17, .tmp 22]) rfl ?_); at_builtin; refine Kd.R_append_row (Value.int .i64) (0 : Int) (h1 := fun _ => rfl) (w0 := w) (w.heap.size) rfl (.tmp 17) (.tmp 22) 31 3 (.int .i64 0) 8 rfl Try.underlying31 infoI64 rfl (by decide) (.slice (some ⟨w.heap.size, 0, none⟩) 0 0) ([]) (l.take 12) (A0) (12) (c0) (fun _ => True) rfl rfl (fun _ _ => trivial) ?aO ?aR ?aB ?aS ?aL ?_; (case aO => exact own_empty64 w); (case aR => exact Kd.C_alloc HO.out _); (case aB => exact below_alloc (Below.refl _ _) _); (case aS => exact (below_size (by exact below_alloc (Below.refl _ _) _))); (case aL => (first | omega | (simp; done) | (simp; omega))); intro v1 w1 ho hb hg hat; simp only [List.nil_append] at ho; obtain ⟨A1, c1, rfl, hc1, hr1⟩ := Kd.R_reads ho; have HO1 := Aside0.mk hr1; have HC1 := Aside0.mk hc1; have HB := Aside0.mk hb; clear ho hb hg hat hr1 hc1))
      go_meet
      case rel => exact ⟨⟨A1, c1, by rw [List.length_take], HC1.out, HO1.out⟩, HB⟩
  case rest =>
    obtain ⟨⟨A1, c1, rfl, hc1, hr1⟩, HB⟩ := hcut
    have ho12 : (l.take 12).length ≤ 12 := by rw [List.length_take]; omega
    have HW1 : Aside0 (∀ n ∈ l.take 12, InI64 n) := ⟨fun n hn => HW.out n (List.mem_of_mem_take hn)⟩
    generalize l.take 12 = o at *
    have HR1 := Aside0.mk hr1
    have HC1 := Aside0.mk hc1
    clear hr1 hc1 HW HR HC
    go_wp2
    go_loopw [6, 26] (fun v i wr => ∃ k : Nat, k ≤ o.length ∧ i = .int .i64 k ∧ Aside0 (Kd.R (Kd.int .u8) 5 wr wc.heap.size (fun _ => True) v (be8s (o.take k))) ∧ Aside0 (Below wc.heap.size wc wr)) (fun _ i _ => o.length - (intOf i).toNat)
    case atStart => exact ⟨0, Nat.zero_le _, rfl, ⟨Kd.R_nil _ _ _ _ _⟩, ⟨Below.refl _ _⟩⟩
    case round =>
      obtain ⟨k, hk, rfl, HO, HB1⟩ := hrel
      by_cases hlt : k < o.length
      · obtain ⟨ad, rfl, hcell⟩ := nums_at HR1.out k hlt
        replace hcell := (HB1.out.cell (World.block_lt_of_cell? wc _ hcell)).trans hcell
        have HT := Lib.hid (be8s_take o k hlt)
        have hll : (be8s (o.take k)).length + 8 ≤ 1000 := by rw [be8s_len, List.length_take]; omega
        have HLL := Lib.hid hll
        clear hll
        obtain ⟨y, hy⟩ : ∃ y, o.getD k 0 = y := ⟨_, rfl⟩
        rw [hy] at hcell HT
        clear hy
        go_wp2_with (first | (go_at_call 11; refine (made_reads (num_calls (some ⟨wr.heap.size, 0, none⟩) 1 [y] _ (C_lit .i64 [y] wr 3 (by simp)) (by simp))).mono ?_; rintro e w2 ⟨A2, c2, rfl, hc2, hC2, hB2⟩; rw [be8s_one] at hC2 ⊢; have hb2 := below_step (below_alloc (Below.refl wr.heap.size wr) _) hB2; have HO2 := Aside0.mk (Kd.R_below HO.out hb2); have HB2 := Aside0.mk (below_step HB1.out hb2); have HC2 := Aside0.mk hC2; clear hC2 hB2 hb2 hc2) | ((with_reducible refine gate_builtin (b := .append) (xs := #[.tmp 30, .tmp 33]) rfl ?_); at_builtin; refine Kd.R_append_row (Value.int .u8) (0 : Int) (h1 := fun _ => rfl) (w0 := wc) (wc.heap.size) rfl (.tmp 30) (.tmp 33) 24 5 (.int .u8 0) 1 rfl Try.underlying24 infoU8 rfl (by decide) (u6) (be8s (o.take k)) (be8 y) (A2) (8) (c2) (fun _ => True) rfl rfl (fun _ _ => trivial) ?aO ?aR ?aB ?aS ?aL ?_; (case aO => exact HO2.out); (case aR => exact HC2.out); (case aB => exact HB2.out); (case aS => exact (below_size (by exact HB2.out))); (case aL => have := HLL.out; omega); intro v1 w1 ho hb hg hat; have HO3 := Aside0.mk ho; have HB3 := Aside0.mk hb; clear ho hb hg hat))
        go_roundw
        case rel => exact ⟨k + 1, by omega, by go_num, ⟨by rw [HT.out]; exact HO3.out⟩, HB3⟩
        case measure => simp [intOf]; omega
      · obtain rfl : k = o.length := by omega
        have HO1 : Aside0 (Kd.R (Kd.int .u8) 5 wr wc.heap.size (fun _ => True) u6 (be8s o)) := ⟨by have := HO.out; rwa [List.take_length] at this⟩
        obtain ⟨A6, c6, rfl, hc6, hC6⟩ := Kd.R_reads HO1.out
        have HC6 := Aside0.mk hC6
        have HRo := Aside0.mk (Kd.C_below HR1.out HB1.out)
        have HBr := Aside0.mk (below_then HB.out HB.out.size HB1.out)
        clear HO HO1 hC6 hc6 HR1 HB HB1
        go_wp2_with fail
        refine (roomy_i64 A1 c1 o 7 wr HRo.out (by omega)).mono ?_
        rintro e w2 ⟨A2, c2, rfl, hc2, hC2, hB2⟩
        have hl2 : (o ++ List.replicate 80 7).length = o.length + 80 := by simp
        obtain ⟨hcut, hrd, _⟩ := cut_i64 A2 c2 (o ++ List.replicate 80 7) (o.length : Int) o.length (by omega) (by omega) (by rw [hl2]; omega) (by rw [hl2]; exact hc2)
        have hr2 := hrd w2 (by rw [hl2]; exact hC2)
        rw [List.take_left' rfl] at hr2
        rw [hl2] at hcut
        have HR2 := Aside0.mk hr2
        have HF2 := Aside0.mk hC2
        have HB2 := Aside0.mk (below_then HBr.out HBr.out.size hB2)
        have HC62 := Aside0.mk (Kd.C_below HC6.out hB2)
        have HRo2 := Aside0.mk (Kd.C_below HRo.out hB2)
        have HC2 := Aside0.mk hc2
        clear hrd hr2 hC2 hB2 hl2 hc2 HC6 HRo HBr
        go_wp2_with fail
        refine (made_reads (num_calls A2 c2 o w2 HR2.out (by omega))).mono ?_
        rintro e w3 ⟨A3, c3, rfl, hc3, hC3, hB3⟩
        have HF3 := Aside0.mk (Kd.C_below HF2.out hB3)
        have HB3 := Aside0.mk (below_then HB2.out HB2.out.size hB3)
        have HC63 := Aside0.mk (Kd.C_below HC62.out hB3)
        have HRo3 := Aside0.mk (Kd.C_below HRo2.out hB3)
        have HC3 := Aside0.mk hC3
        clear hcut hC3 hB3 hc3 HF2 HB2 HC62 HRo2 HR2
        go_wp2_with fail
        refine (read_calls A3 c3 (be8s o) w3 HC3.out (be8s_byt o) (by rw [be8s_len]; omega)).mono ?_
        rintro e w4 ⟨w0, g, rfl, hI, hb0, hb1⟩
        have hb4 := below_then hb0 hb0.size hb1
        have HI := Aside0.mk hI
        have HF4 := Aside0.mk (Kd.C_below HF3.out hb4)
        have HC64 := Aside0.mk (Kd.C_below HC63.out hb4)
        have HRo4 := Aside0.mk (Kd.C_below HRo3.out hb4)
        have HRo0 := Aside0.mk (Kd.C_below HRo3.out hb0)
        have HC34 := Aside0.mk (Kd.C_below HC3.out hb4)
        have HB0 := Aside0.mk (below_then HB3.out HB3.out.size hb0)
        have HB1 := Aside0.mk hb1
        clear hI hb0 hb1 hb4 HF3 HC63 HRo3 HC3 HB3
        go_wp2_with (first | (go_at_call 10; refine (same_u8 A3 c3 (be8s o) A6 c6 (be8s o) _ HC34.out HC64.out).mono ?_; rintro e w' ⟨rfl, ⟨nd, rfl⟩⟩; simp only [decide_true]) | (go_at_call 16; refine (intact_i64 A2 c2 o 7 A1 c1 _ (Kd.C_drewN HF4.out _) HC2.out (Kd.C_drewN HRo4.out _) (by omega)).mono ?_; rintro e w' ⟨rfl, ⟨nd2, rfl⟩⟩))
        go_loopw [61] (fun i wr => ∃ k : Nat, k ≤ o.length ∧ i = .int .i64 k ∧ Aside0 (IsRd w0 wr g (be8s (o.drop k)) false) ∧ Aside0 (Below w0.heap.size w0 wr)) (fun i _ => o.length - (intOf i).toNat)
        case atStart => exact ⟨0, Nat.zero_le _, rfl, ⟨by rw [List.drop_zero]; exact HI.out.drewN _⟩, ⟨by (with_reducible repeat (first | exact HB1.out | apply pw_below_drewN))⟩⟩
        case round =>
          obtain ⟨k, hk2, rfl, HI1, HB2⟩ := hrel
          by_cases hlt2 : k < o.length
          · obtain ⟨ad, rfl, hcell⟩ := nums_at HRo0.out k hlt2
            replace hcell := (HB2.out.cell (World.block_lt_of_cell? w0 _ hcell)).trans hcell
            have HD := Lib.hid (be8s_drop o k hlt2)
            have hin := HW1.out (o.getD k 0) (by rw [List.getD_eq_getElem?_getD, List.getElem?_eq_getElem hlt2]; exact List.getElem_mem hlt2)
            obtain ⟨y, hy⟩ : ∃ y, o.getD k 0 = y := ⟨_, rfl⟩
            rw [hy] at hcell HD hin
            clear hy
            have hnum := number_calls g (be8s (o.drop k)) false w0 wr HI1.out HB2.out
            rw [HD.out, number1_be8 y hin] at hnum
            have HN := Lib.hid hnum
            clear hnum
            have hyy : (y != y) = false := by simp
            go_wp2_with (first | (go_at_call 17; refine HN.out.mono ?_; rintro e w5 ⟨rfl, hI5, hB5, hK5⟩; have HI5 := Aside0.mk hI5; have HB5 := Aside0.mk hB5; clear hI5 hB5 hK5) | (go_at_call 13; refine (good_calls g (be8s (o.drop (k + 1))) false w0 w5 HI5.out).mono ?_; rintro e w' ⟨rfl, rfl⟩))
            go_roundw
            case rel => exact ⟨k + 1, by omega, by go_num, HI5, HB5⟩
            case measure => simp [intOf]; omega
          · obtain rfl : k = o.length := by omega
            have HI2 : Aside0 (IsRd w0 wr g [] false) := ⟨by have := HI1.out; rwa [List.drop_length] at this⟩
            obtain ⟨n, hn⟩ := Int.eq_ofNat_of_zero_le (within_bd x 0 255 (by omega)).1
            have hn2 := (within_bd x 0 255 (by omega)).2
            have hwi := within_calls x 0 255 wr (by omega) (by omega) (by omega)
            rw [hn] at hwi hn2
            have HWI := Lib.hid hwi
            have hn3 : n ≤ 255 := by omega
            clear hn hn2 hwi HI1
            have hmk := made_zs8 n (by omega)
            have hcv := conv_zs8 n wr (by omega)
            have hsz := zstr_size n
            have hpure := zs8_text n hn3
            have hlen := text8_len (zstr n) (by rw [hsz]; exact hn3)
            rw [hsz] at hlen
            have HP := Lib.hid hpure
            have HL8 := Lib.hid hlen
            clear hsz hpure hlen
            generalize zstr n = s at *
            have hbz := below_alloc (Below.refl wr.heap.size wr) (.cells (zs8 n) 5)
            have HB3 := Aside0.mk (below_step HB2.out hbz)
            have HI3 := Aside0.mk (HI2.out.below hbz)
            clear hbz HB2 HI2
            go_wp2_with fail
            refine HWI.out.mono ?_
            rintro e w' ⟨rfl, rfl⟩
            go_wp2_with fail
            have HW0 := Aside0.mk (below_then HB0.out HB0.out.size HB3.out)
            clear HB0 HB1 HF4 HC64 HRo4 HRo0 HC34 HI HB3 hmk hcv HWI
            refine (made_reads (txt_calls s _)).mono ?_
            rintro e w5 ⟨A5, c5, rfl, hc5, hC5, hB5⟩
            have HW5 := Aside0.mk (below_step HW0.out hB5)
            have HI5 := Aside0.mk (HI3.out.below hB5)
            have HC5 := Aside0.mk hC5
            clear hC5 hB5 hc5 HW0 HI3
            go_wp2_with fail
            refine (read_calls A5 c5 (text8 s) w5 HC5.out (text8_byt s) (by rw [HL8.out]; omega)).mono ?_
            rintro e w6 ⟨w01, g2, rfl, hI, hb0, hb1⟩
            have hb6 := below_then hb0 hb0.size hb1
            have HW01 := Aside0.mk (below_step HW5.out hb0)
            have HI6 := Aside0.mk (HI5.out.below hb6)
            have htx := text_calls g2 (text8 s) false w01 w6 hI hb1
            rw [HP.out] at htx
            have HTX := Lib.hid htx
            clear hI hb0 hb1 hb6 htx HW5 HI5 HC5
            go_wp2_with fail
            refine (done_calls g [] false w0 w6 HI6.out).mono ?_
            rintro e w' ⟨rfl, rfl⟩
            go_wp2_with fail
            refine HTX.out.mono ?_
            rintro e w7 ⟨rfl, hI7, hB7, hK7⟩
            have HW7 := Aside0.mk (below_then HW01.out HW01.out.size hB7)
            have HI7 := Aside0.mk hI7
            clear hI7 hB7 hK7 HW01 HTX HI6
            go_wp2_with fail
            refine (done_calls g2 [] false w01 w7 HI7.out).mono ?_
            rintro e w' ⟨rfl, rfl⟩
            go_wp2_with fail
            refine (made_reads (txt_calls s _)).mono ?_
            rintro e w8 ⟨A8, c8, rfl, hc8, hC8, hB8⟩
            rw [HL8.out]
            have HW8 := Aside0.mk (below_step HW7.out hB8)
            clear hC8 hB8 hc8 HW7 HI7
            go_wp2_with fail
            refine (read_calls none 0 [] w8 (C_nil _ _) (fun b hb => absurd hb (by simp)) (by simp)).mono ?_
            rintro e w9 ⟨w02, g3, rfl, hI, hb0, hb1⟩
            have HW9 := Aside0.mk (below_step HW8.out (below_then hb0 hb0.size hb1))
            clear hI hb0 hb1 HW8
            go_wp2_with fail
            refine (read_calls none 0 [] w9 (C_nil _ _) (fun b hb => absurd hb (by simp)) (by simp)).mono ?_
            rintro e w10 ⟨w03, g4, rfl, hI, hb0, hb1⟩
            have HW10 := Aside0.mk (below_step HW9.out (below_then hb0 hb0.size hb1))
            have HI10 := Aside0.mk hI
            clear hI hb0 hb1 HW9
            go_wp2_with fail
            refine (done_calls g4 [] false w03 w10 HI10.out).mono ?_
            rintro e w' ⟨rfl, rfl⟩
            go_wp2_with fail
            refine (runs_calls _).mono ?_
            rintro e w11 ⟨rfl, hb⟩
            have HW11 := Aside0.mk (below_step HW10.out hb)
            clear hb HW10 HI10
            go_wp2
            go_ret
            exact ⟨rfl, HW11.out⟩
theorem many_walk (a : Option Addr) (len cap : Nat) (zs : List Int) (x : Int) (w : World) (h : (a = none ∧ len = 0 ∧ cap = 0 ∧ zs = []) ∨ ∃ x, a = some x ∧ len ≤ cap ∧ cap ≤ maxLen ∧ zs.length = cap ∧ (∀ i, i < zs.length → w.cell? (x.add i) = some (.int .i64 (zs.getD i 0))) ∧ ∀ n ∈ zs, (Lit.int .i64 n).wf = true) (hy : len * 8 ≤ 140737488351232) (hx : (Lit.int .i64 x).wf = true) :
    Calls Try.prog 5 #[.slice a len cap, .int .i64 x] w fun e w' => e = .returned (.bool true) ∧ Below w.heap.size w w' := by
  obtain ⟨l, rfl, hr, hm, hw, hc⟩ := ReadsInt.ofRowC h
  exact many_calls a cap l x w (Kd.C_of_reads (d := (0 : Int)) (h1 := fun _ => rfl) hr) hc (fun n hn => bounds_i64 (hw n hn))
end Go.Proofs.Ytnljhdfmhhmdkaa.Rd
