/-
 The reader of package num, function by function: what each call of take, Byte, Number, Text, ID, Good, Done, Read comes to, over lists of bytes.
-/
import Derived.Test.YtbplemhjhpfkgaaDoorProg
import Derived.Test.YtbplemhjhpfkgaaDoorZWords
import Derived.Lib.Hide
namespace Go.Proofs.YtbplemhjhpfkgaaDoor.Rd
open Go.RowKit YtbplemhjhpfkgaaDoorW.PrintWords YtbplemhjhpfkgaaDoorW.PrintLast YtbplemhjhpfkgaaDoorW.PrintMore
set_option linter.unusedVariables false
set_option linter.unusedSimpArgs false
theorem infoU8 : (Tryd.prog.info? 5).map (fun i => (i.zero, i.size, i.bytes)) = some (some (.int .u8 0), 1, 1) := by kernel_rfl

def Byt (bs : List Int) : Prop := ∀ b ∈ bs, 0 ≤ b ∧ b < 256
def IsRd (w0 W : World) (g : Nat) (bs : List Int) (bad : Bool) : Prop :=
 Byt bs ∧ ∃ A c, W.heap[g]? = some (.cells #[.slice A bs.length c, .bool bad] 153 (0, 0)) ∧ w0.heap.size ≤ g ∧ bs.length ≤ c ∧ Kd.C (Kd.int .u8) w0 A bs.length bs

theorem rd_cell0 {W : World} {g : Nat} {A : Option Addr} {n c : Nat} {bad : Bool} (h : W.heap[g]? = some (.cells #[.slice A n c, .bool bad] 153 (0, 0))) : W.cell? ⟨g, 0, none⟩ = some (.slice A n c) := (blk_cell h 0).trans rfl
theorem rd_cell1 {W : World} {g : Nat} {A : Option Addr} {n c : Nat} {bad : Bool} (h : W.heap[g]? = some (.cells #[.slice A n c, .bool bad] 153 (0, 0))) : W.cell? ⟨g, 1, none⟩ = some (.bool bad) := (blk_cell h 1).trans rfl

theorem C_nil {α : Type} (d : Kd α) (w : World) : Kd.C d w none ([] : List α).length [] := ⟨rfl, by simp, fun h => absurd h (by simp)⟩

theorem IsRd.grown {w0 W W1 : World} {g : Nat} {bs : List Int} {bad : Bool} {row : Option Nat} (h : IsRd w0 W g bs bad) (hw : W.grownBy W1 row) (hne : some g ≠ row) : IsRd w0 W1 g bs bad := by
 obtain ⟨hy, A, c, hb, hg, hc, hr⟩ := h; exact ⟨hy, A, c, blk_grown hb hw hne, hg, hc, hr⟩
theorem IsRd.below {w0 W W1 : World} {g : Nat} {bs : List Int} {bad : Bool} (h : IsRd w0 W g bs bad) (hw : Below W.heap.size W W1) : IsRd w0 W1 g bs bad := h.grown (grown_of_below hw none) (by simp)
theorem IsRd.alloc {w0 W : World} {g : Nat} {bs : List Int} {bad : Bool} (h : IsRd w0 W g bs bad) (o : Obj) : IsRd w0 (W.alloc o) g bs bad := h.below (below_alloc (Below.refl _ _) o)
theorem IsRd.drewN {w0 W : World} {g : Nat} {bs : List Int} {bad : Bool} (h : IsRd w0 W g bs bad) (m : Nat) : IsRd w0 (W.drewN m) g bs bad := h
theorem IsRd.lt {w0 W : World} {g : Nat} {bs : List Int} {bad : Bool} (h : IsRd w0 W g bs bad) : g < W.heap.size := by
 obtain ⟨_, A, c, hb, _⟩ := h; exact blk_lt hb
theorem IsRd.keep {w0 W W1 : World} {g g' : Nat} {bs : List Int} {bad : Bool} (h : IsRd w0 W g bs bad) (hk : KeepBut W W1 g' none) (hne : g ≠ g') : IsRd w0 W1 g bs bad := by
 obtain ⟨hy, A, c, hb, hg, hc, hr⟩ := h; exact ⟨hy, A, c, hk.blk hb hne (by simp), hg, hc, hr⟩

def takes (bs : List Int) (bad : Bool) (n : Int) : List Int × List Int × Bool :=
 if bad = true ∨ (bs.length : Int) < n then ([], bs, true) else (bs.take n.toNat, bs.drop n.toNat, false)

set_option maxHeartbeats 800000 in
theorem take_calls (g : Nat) (bs : List Int) (bad : Bool) (n : Int) (h0 : 0 ≤ n) (w0 w : World) (hI : IsRd w0 w g bs bad) (hB : Below w0.heap.size w0 w) :
  Calls Tryd.prog 103 #[.pointer (some ⟨g, 0, none⟩), .int .i64 n] w fun e w' => ∃ A c, e = .returned (.slice A (takes bs bad n).1.length c) ∧ (takes bs bad n).1.length ≤ c ∧
   Kd.C (Kd.int .u8) w0 A (takes bs bad n).1.length (takes bs bad n).1 ∧ IsRd w0 w' g (takes bs bad n).2.1 (takes bs bad n).2.2 ∧ Below w0.heap.size w0 w' ∧ KeepBut w w' g none := by
 obtain ⟨hby, A, c, hb, hg, hc, hr⟩ := hI; have HY := sd hby; clear hby; have hc0 := rd_cell0 hb; have hc1 := rd_cell1 hb; have hf0 := blk_frozen hb 0; have hf1 := blk_frozen hb 1; have HB := sd hB; have HB1 := sd hb; have HR := sd hr; have HC := sd hc; have HG := sd hg; clear hB hb hr hc hg; have bads : (takes bs true n) = ([], bs, true) := by simp [takes]
 cases bad with
 | true =>
  have BADS := sd bads; clear bads
  go_enter Tryd.func103, Tryd.ntmps103
  go_wp2; go_ret; rw [BADS.out]; exact ⟨none, 0, rfl, by simp, C_nil _ _, ⟨HY.out, A, c, by simpa using blk_set HB1.out 1 (.bool true), HG.out, HC.out, HR.out⟩, below_set HB.out HG.out, (KeepBut.refl _ _ _).set_ _ _⟩
 | false =>
  clear bads
  by_cases hn : (bs.length : Int) < n
  ·have BADS : Aside0 (takes bs false n = ([], bs, true)) := ⟨by simp [takes, hn]⟩
   go_enter Tryd.func103, Tryd.ntmps103
   go_wp2; go_ret; rw [BADS.out]; exact ⟨none, 0, rfl, by simp, C_nil _ _, ⟨HY.out, A, c, by simpa using blk_set HB1.out 1 (.bool true), HG.out, HC.out, HR.out⟩, below_set HB.out HG.out, (KeepBut.refl _ _ _).set_ _ _⟩
  ·have BADS : Aside0 (takes bs false n = (bs.take n.toNat, bs.drop n.toNat, false)) := ⟨by simp [takes, hn]⟩; have hle : n ≤ bs.length := by omega
   obtain ⟨i0, hi0, _, hsz0, _⟩ := info_parts infoU8; obtain ⟨hcut, hA, hC⟩ := print_take_of (P := Tryd.prog) (Value.int .u8) 0 22 5 .i64 Tryd.underlying22 hi0 hsz0 A c bs n h0 hle HC.out; obtain ⟨A', hcut', hA', hC'⟩ := print_drop_of (P := Tryd.prog) (Value.int .u8) 0 22 5 .i64 Tryd.underlying22 hi0 hsz0 A c bs n h0 hle HC.out; have HA := sd hA; have HC1 := sd hC; have HA' := sd hA'; have HC' := sd hC'; clear hA hC hA' hC' hi0 hsz0
   go_enter Tryd.func103, Tryd.ntmps103
   go_wp2; go_ret; rw [BADS.out]; have hlt : (bs.take n.toNat).length = n.toNat := by rw [List.length_take]; omega
   have hld : (bs.drop n.toNat).length = bs.length - n.toNat := List.length_drop; have hb1 := blk_set HB1.out 0 (.slice A' (bs.length - n.toNat) (c - n.toNat)); rw [← hld] at hb1; refine ⟨A, c, by rw [hlt]; rfl, HC1.out, Kd.C_of_reads (h1 := fun _ => rfl) (HA.out _ (Kd.reads_of_C HR.out)), ⟨fun b hb => HY.out b (List.mem_of_mem_drop hb), A', c - n.toNat, by rw [← hld]; simpa using hb1, HG.out, HC'.out, Kd.C_of_reads (h1 := fun _ => rfl) (HA'.out _ (Kd.reads_of_C HR.out))⟩, below_set HB.out HG.out, (KeepBut.refl _ _ _).set_ _ _⟩

theorem bytes_at {w : World} {A : Option Addr} {n : Nat} {xs : List Int} (h : Kd.C (Kd.int .u8) w A n xs) (i : Nat) (hi : i < n) : ∃ ad, A = some ad ∧ w.cell? (ad.add i) = some (.int .u8 (xs.getD i 0)) := by
 obtain ⟨ad, e, hc⟩ := Kd.at_int h (i : Int) (by omega) (by omega); exact ⟨ad, e, by simpa [rd] using hc⟩

theorem add_zero_ (a : Addr) : a.add 0 = a := by simp [Addr.add]
def byte1 (bs : List Int) (bad : Bool) : Int × List Int × Bool := if bad = true then (0, bs, true) else match bs with | [] => (0, [], true) | b :: r => (b, r, false)
theorem takes_one (bs : List Int) (bad : Bool) : (takes bs bad 1).2 = (byte1 bs bad).2 := by
 cases bad with
 | true => simp [takes, byte1]
 | false => cases bs with
  | nil => simp [takes, byte1]
  | cons b r => unfold takes byte1; rw [if_neg (by simp; omega)]; simp
theorem byte1_nil (bs : List Int) (bad : Bool) (h : (takes bs bad 1).1 = []) : (byte1 bs bad).1 = 0 := by
 cases bad with
 | true => simp [byte1]
 | false => cases bs with
  | nil => simp [byte1]
  | cons b r => unfold takes at h; rw [if_neg (by simp; omega)] at h; simp at h
set_option maxHeartbeats 800000 in
theorem byte_calls (g : Nat) (bs : List Int) (bad : Bool) (w0 w : World) (hI : IsRd w0 w g bs bad) (hB : Below w0.heap.size w0 w) :
  Calls Tryd.prog 90 #[.pointer (some ⟨g, 0, none⟩)] w fun e w' => e = .returned (.int .u8 (byte1 bs bad).1) ∧
   IsRd w0 w' g (byte1 bs bad).2.1 (byte1 bs bad).2.2 ∧ Below w0.heap.size w0 w' ∧ KeepBut w w' g none := by
 have T := take_calls g bs bad 1 (by omega) w0 w hI hB; have e1 := takes_one bs bad; have HT := Lib.hid T; clear T hI hB; cases h1 : (takes bs bad 1).1 with
 | nil =>
  have e2 := byte1_nil bs bad h1; have E1 := Lib.hid e1; have E2 := Lib.hid e2; have H1 := Lib.hid h1; clear e1 e2 h1
  go_enter Tryd.func90, Tryd.ntmps90
  go_wp2_with fail; refine HT.out.mono ?_; rintro e w' ⟨A, c, rfl, hc, hr, hI', hB', hK'⟩; rw [H1.out]; have HH := sd (And.intro hI' (And.intro hB' hK')); clear hI' hB' hK' hr; go_wp2; go_ret; rw [← E1.out, E2.out]; exact ⟨rfl, HH.out⟩
 | cons b r =>
  have hnb : bad = false := by
   revert h1; unfold takes; cases bad <;> simp
  have hbs : ∃ r', bs = b :: r' ∧ r = [] := by
   revert h1; subst hnb; unfold takes; cases bs with
   | nil => simp
   | cons x xs => simp; split <;> simp <;> rintro rfl rfl <;> simp
  obtain ⟨r', rfl, rfl⟩ := hbs; subst hnb; have E1 := Lib.hid e1; have H1 := Lib.hid h1; clear e1 h1
  go_enter Tryd.func90, Tryd.ntmps90
  go_wp2_with fail; refine HT.out.mono ?_; rintro e w' ⟨A, c, rfl, hc, hr, hI', hB', hK'⟩; rw [H1.out] at hr ⊢; have hr1 := Kd.C_below hr hB'; obtain ⟨ad, rfl, hcell⟩ := bytes_at hr1 0 (by simp); have HH := sd (And.intro hI' (And.intro hB' hK')); clear hI' hB' hK' hr hr1; rw [add_zero_] at hcell; simp only [List.getD_cons_zero] at hcell; go_wp2; go_ret; rw [← E1.out]; exact ⟨rfl, HH.out⟩

def numOf (l : List Int) : Int := l.foldl (fun n b => n * 256 + b) 0
theorem numOf_snoc (l : List Int) (b : Int) : numOf (l ++ [b]) = numOf l * 256 + b := by simp [numOf]
theorem numOf_fold (l : List Int) : ∀ n : Int, l.foldl (fun n b => n * 256 + b) n = n * 256 ^ l.length + numOf l := by
 induction l with
 | nil => intro n; simp [numOf]
 | cons b l ih =>
  intro n; have h1 := ih (n * 256 + b); have h2 := ih (0 * 256 + b); simp only [numOf, List.foldl_cons] at h1 h2 ⊢; rw [h1, h2, List.length_cons, Int.pow_succ, Int.add_mul, Int.zero_mul, Int.zero_add, Int.mul_assoc, Int.mul_comm 256, Int.add_assoc]
theorem numOf_cons (b : Int) (l : List Int) : numOf (b :: l) = b * 256 ^ l.length + numOf l := by
 have := numOf_fold l (0 * 256 + b); simp only [numOf, List.foldl_cons] at this ⊢; rw [this, Int.zero_mul, Int.zero_add]
theorem numOf_bd (l : List Int) (h : Byt l) : 0 ≤ numOf l ∧ numOf l < 256 ^ l.length := by
 induction l with
 | nil => simp [numOf]
 | cons b l ih =>
  have h1 := ih (fun x hx => h x (by simp [hx])); have h2 := h b (by simp); rw [numOf_cons, List.length_cons, Int.pow_succ]; generalize hp : (256 : Int) ^ l.length = p at *; have hp0 : 0 ≤ p := by omega
  have h3 : b * p ≤ 255 * p := Int.mul_le_mul_of_nonneg_right (by omega) hp0; have h4 : 0 ≤ b * p := Int.mul_nonneg (by omega) hp0; omega
theorem numOf_take (l : List Int) (k : Nat) (h : k < l.length) : numOf (l.take (k + 1)) = numOf (l.take k) * 256 + l[k] := by
 rw [List.take_succ_eq_append_getElem h, numOf_snoc]
theorem or_byte (x b : Int) (h0 : 0 ≤ x) (h1 : x < 72057594037927936) (h2 : 0 ≤ b) (h3 : b < 256) : bits .or .u64 (IntKind.u64.wrap (x * 256)) (IntKind.u64.wrap b) = x * 256 + b := by
 have w1 : ∀ n : Int, 0 ≤ n → n < 18446744073709551616 → IntKind.u64.wrap n = n := fun n h0 h1 => by simp [IntKind.wrap, IntKind.bits, IntKind.signed]; omega
 rw [w1 _ (by omega) (by omega), w1 b h2 (by omega)]; exact bits_join .u64 64 (by decide) (fun n h0 h1 => w1 n h0 (by simpa using h1)) 8 _ _ (by omega) (by omega) (by omega) h2 (by omega) (by omega)
theorem p256 (n : Nat) (h : n ≤ 7) : (256 : Int) ^ n ≤ 72057594037927936 := by
 have h8 : n = 0 ∨ n = 1 ∨ n = 2 ∨ n = 3 ∨ n = 4 ∨ n = 5 ∨ n = 6 ∨ n = 7 := by omega
 rcases h8 with rfl | rfl | rfl | rfl | rfl | rfl | rfl | rfl <;> decide
theorem takes_byt {bs : List Int} (h : Byt bs) (bad : Bool) (n : Int) : Byt (takes bs bad n).1 := by
 unfold takes; split
 ·exact fun b hb => absurd hb (by simp)
 ·exact fun b hb => h b (List.mem_of_mem_take hb)
theorem takes_len (bs : List Int) (bad : Bool) (n : Nat) : (takes bs bad n).1.length ≤ n := by
 unfold takes; split
 ·simp
 ·simp; omega
def number1 (bs : List Int) (bad : Bool) : Int × List Int × Bool := if bad = true ∨ bs.length < 8 then (0, bs, true) else (wrap64 (numOf (bs.take 8)), bs.drop 8, false)
theorem number1_eq (bs : List Int) (bad : Bool) : number1 bs bad = (wrap64 (numOf (takes bs bad 8).1), (takes bs bad 8).2) := by
 unfold number1 takes
 by_cases h : bad = true ∨ bs.length < 8
 ·rw [if_pos h, if_pos (h.imp_right (fun _ => by omega))]; simp [numOf, wrap64]
 ·rw [if_neg h, if_neg (fun h' => h (h'.imp_right (fun _ => by omega)))]; rfl
set_option maxHeartbeats 800000 in
theorem number_calls (g : Nat) (bs : List Int) (bad : Bool) (w0 w : World) (hI : IsRd w0 w g bs bad) (hB : Below w0.heap.size w0 w) :
  Calls Tryd.prog 91 #[.pointer (some ⟨g, 0, none⟩)] w fun e w' => e = .returned (.int .i64 (number1 bs bad).1) ∧
   IsRd w0 w' g (number1 bs bad).2.1 (number1 bs bad).2.2 ∧ Below w0.heap.size w0 w' ∧ KeepBut w w' g none := by
 have HT := Lib.hid (take_calls g bs bad 8 (by omega) w0 w hI hB); have HY := Lib.hid (takes_byt hI.1 bad 8); have HL := Lib.hid (takes_len bs bad 8); have HE := Lib.hid (number1_eq bs bad); clear hI hB
 go_enter Tryd.func91, Tryd.ntmps91
 go_wp2_with fail; refine HT.out.mono ?_; rintro e w' ⟨A, c, rfl, hc, hr, hI', hB', hK'⟩; have hr1 := Kd.C_below hr hB'; have HH := sd (And.intro hI' (And.intro hB' hK')); clear hI' hB' hK' hr; have HE' := HE; generalize hl : (takes bs bad 8).1 = l at *; have HL1 := Lib.hid hl; clear hl HT HE; have HR1 := sd hr1; have hlen : l.length ≤ 8 := HL.out; clear hr1 hc; go_wp2
 go_loop [3, 9] (fun n i => ∃ k : Nat, k ≤ l.length ∧ i = .int .i64 k ∧ n = .int .u64 (numOf (l.take k))) (fun _ i => l.length - (intOf i).toNat)
 case atStart => exact ⟨0, Nat.zero_le _, rfl, rfl⟩
 case round =>
  obtain ⟨k, hk, rfl, rfl⟩ := hrel
  by_cases hlt : k < l.length
  ·obtain ⟨ad, rfl, hcell⟩ := bytes_at HR1.out k hlt; have hb := HY.out (l.getD k 0) (by rw [List.getD_eq_getElem?_getD, List.getElem?_eq_getElem hlt]; exact List.getElem_mem hlt); have hnb := numOf_bd (l.take k) (fun x hx => HY.out x (List.mem_of_mem_take hx)); go_wp2; have hbk := hb; rw [List.getD_eq_getElem?_getD, List.getElem?_eq_getElem hlt, Option.getD_some] at hbk; have hpow : (256 : Int) ^ (l.take k).length ≤ 72057594037927936 := p256 _ (by rw [List.length_take]; omega); have hor := or_byte (numOf (l.take k)) l[k] hnb.1 (by omega) hbk.1 hbk.2
   go_round
   case rel => exact ⟨k + 1, by omega, by go_num, by rw [hor, numOf_take l k hlt]⟩
   case measure => simp [intOf]; omega
  ·obtain rfl : k = l.length := by omega
   go_wp2; go_ret; rw [HE'.out]; exact ⟨rfl, HH.out⟩

def text1 (bs : List Int) (bad : Bool) : ByteArray × List Int × Bool :=
 (strOfNums (takes (byte1 bs bad).2.1 (byte1 bs bad).2.2 (byte1 bs bad).1).1, (takes (byte1 bs bad).2.1 (byte1 bs bad).2.2 (byte1 bs bad).1).2)
theorem byte1_bd (bs : List Int) (bad : Bool) (h : Byt bs) : 0 ≤ (byte1 bs bad).1 ∧ (byte1 bs bad).1 < 256 := by
 unfold byte1; cases bad <;> cases bs <;> simp
 exact h _ (by simp)
theorem KeepBut_trans {w w1 w2 : World} {g : Nat} (h : KeepBut w w1 g none) (k : KeepBut w1 w2 g none) : KeepBut w w2 g none := h.trans k (.inl rfl)
set_option maxHeartbeats 800000 in
theorem text_calls (g : Nat) (bs : List Int) (bad : Bool) (w0 w : World) (hI : IsRd w0 w g bs bad) (hB : Below w0.heap.size w0 w) :
  Calls Tryd.prog 93 #[.pointer (some ⟨g, 0, none⟩)] w fun e w' => e = .returned (.string (text1 bs bad).1) ∧
   IsRd w0 w' g (text1 bs bad).2.1 (text1 bs bad).2.2 ∧ Below w0.heap.size w0 w' ∧ KeepBut w w' g none := by
 have HB1 := Lib.hid (byte_calls g bs bad w0 w hI hB); have hbd := byte1_bd bs bad hI.1; clear hI hB; unfold text1; generalize hz : byte1 bs bad = z at *; obtain ⟨n, bs1, bad1⟩ := z; clear hz
 simp only at HB1 hbd ⊢
 go_enter Tryd.func93, Tryd.ntmps93
 go_wp2_with fail; refine HB1.out.mono ?_; rintro e w1 ⟨rfl, hI, hB, hK⟩; have HT := Lib.hid (take_calls g bs1 bad1 n hbd.1 w0 w1 hI hB); have HK := sd hK; clear hI hB hK HB1; go_wp2_with fail; refine HT.out.mono ?_; rintro e w' ⟨A, c, rfl, hc, hr, hI', hB', hK'⟩; have hcv := Kd.C_string (P := Tryd.prog) (src := 22) (dst := 9) (c := c) Tryd.underlying22 Tryd.underlying5 Tryd.underlying9 (Kd.C_below hr hB'); have HH := sd (And.intro hI' (And.intro hB' (KeepBut_trans HK.out hK'))); clear hI' hB' hK' hr HT HK; go_wp2; go_ret; exact ⟨rfl, HH.out⟩

theorem good_calls (g : Nat) (bs : List Int) (bad : Bool) (w0 w : World) (hI : IsRd w0 w g bs bad) :
  Calls Tryd.prog 92 #[.pointer (some ⟨g, 0, none⟩)] w fun e w' => e = .returned (.bool (!bad)) ∧ w = w' := by
 obtain ⟨_, A, c, hb, _⟩ := hI; have hc1 := rd_cell1 hb; clear hb
 go_enter Tryd.func92, Tryd.ntmps92
 go_wp2; go_ret; exact ⟨rfl, rfl⟩
theorem done_calls (g : Nat) (bs : List Int) (bad : Bool) (w0 w : World) (hI : IsRd w0 w g bs bad) :
  Calls Tryd.prog 65 #[.pointer (some ⟨g, 0, none⟩)] w fun e w' => e = .returned (.bool (!bad && bs.isEmpty)) ∧ w = w' := by
 obtain ⟨_, A, c, hb, _⟩ := hI; have hc0 := rd_cell0 hb; have hc1 := rd_cell1 hb; clear hb; cases bad
 ·have he : ((bs.length : Int) == 0) = bs.isEmpty := by cases bs <;> simp <;> omega
  go_enter Tryd.func65, Tryd.ntmps65
  go_wp2; go_ret; exact ⟨by simp, rfl⟩
 ·go_enter Tryd.func65, Tryd.ntmps65
  go_wp2; go_ret; exact ⟨rfl, rfl⟩

theorem own_empty (w : World) : Kd.R (Kd.int .u8) 5 (w.alloc (.cells #[] 5)) w.heap.size (fun _ => True) (.slice (some ⟨w.heap.size, 0, none⟩) 0 0) [] :=
 ⟨fun _ _ => trivial, [], by show World.ownsRow _ _ _ 1 _ _ _; simpa using World.ownsRow_lit (base := w.heap.size) (e := 5) (size := 1) w #[] 0 (Nat.le_refl _) (by simp) rfl, Reps.none _ _⟩
set_option maxHeartbeats 800000 in
theorem read_calls (A : Option Addr) (c : Nat) (xs : List Int) (w : World) (hr : Kd.C (Kd.int .u8) w A xs.length xs) (hy : Byt xs) (hm : xs.length ≤ 140737488355328) :
  Calls Tryd.prog 63 #[.slice A xs.length c] w fun e w' => ∃ w0 g, e = .returned (.pointer (some ⟨g, 0, none⟩)) ∧ IsRd w0 w' g xs false ∧ Below w.heap.size w w0 ∧ Below w0.heap.size w0 w' := by
 have HR := sd hr; have HY := sd hy; clear hr hy
 go_enter Tryd.func63, Tryd.ntmps63
 go_wp2_with (first | ((with_reducible refine gate_builtin (b := .append) (xs := #[.tmp 3, .tmp 4]) rfl ?_); at_builtin; refine Kd.R_append_row (Value.int .u8) (0 : Int) (h1 := fun _ => rfl) (w0 := w) w.heap.size rfl (.tmp 3) (.tmp 4) 22 5 (.int .u8 0) 1 rfl Tryd.underlying22 infoU8 rfl (by decide) (.slice (some ⟨w.heap.size, 0, none⟩) 0 0) [] xs A xs.length c (fun _ => True) rfl rfl (fun _ _ => trivial) ?aO ?aR ?aB ?aS ?aL ?_; (case aO => exact own_empty w); (case aR => exact Kd.C_alloc HR.out _); (case aB => exact below_alloc (Below.refl _ _) _); (case aS => simp); (case aL => simp; omega); intro v1 w1 ho hb hg hat; simp only [List.nil_append] at ho; obtain ⟨A1, c1, rfl, hc1, hr1⟩ := Kd.R_reads ho; have HO := sd hr1; have HC := sd hc1; have HB := sd hb; clear ho hb hg hat hr1 hc1)); go_ret; exact ⟨w1, w1.heap.size, rfl, ⟨HY.out, A1, c1, by simpa using heap_alloc_new w1 _, Nat.le_refl _, HC.out, HO.out⟩, HB.out, below_alloc (Below.refl _ _) _⟩
end Go.Proofs.YtbplemhjhpfkgaaDoor.Rd
