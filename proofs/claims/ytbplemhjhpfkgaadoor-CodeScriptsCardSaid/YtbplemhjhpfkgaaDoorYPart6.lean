/-
 The reader of package num, function by function: what each call of take, Byte, Number, Text, ID, Good, Done, Read comes to, over lists of bytes.
-/
import Derived.Test.YtbplemhjhpfkgaaDoorProg
import Derived.Test.YtbplemhjhpfkgaaDoorYWords
import Derived.Lib.Hide
import Derived.Below
import Derived.Deep.Draws
import Derived.Deep.AppendLies
import Derived.Maps.AppendAt
import Derived.OwnWalk
import Derived.Laws.BytesArg
import Derived.Laws.MakeOwn
import Derived.Laws.OwnMore
import Derived.Deep.OwnRows
import Derived.Tactics
import Derived.Lib.ConvBytes
import Derived.Laws.Slices
import Derived.WalkKit
import Derived.KernelRfl
import Derived.RowKit3
import Derived.Deep.LoopGhost
import Derived.Deep.QuietTactic
import Derived.BigQuiet
import Derived.WideLaws
import Derived.Deep.DeepCutAuto
import Derived.Deep.CutBlock
import Derived.Deep.RegionHeld3
import Derived.Laws.Rows
import Derived.Lib.AppendStr
import Derived.ArgAppend
import Derived.Laws.IdiomCopy
import Derived.OrdersHeld
import Derived.Laws.BitsLemmas
import Derived.RowKit
import Derived.Laws.Cover1
import Derived.Test.YtbplemhjhpfkgaaDoorYFaultKind
import Derived.Deep.Slices
import Derived.OpenShut
import Derived.ChangeArms
import Derived.Lib.SmallJoins
set_option linter.unusedVariables false
set_option linter.unusedSimpArgs false
namespace Go.Proofs.YtbplemhjhpfkgaaDoor.Rd
open Go.RowKit YtbplemhjhpfkgaaDoorW.PrintWords YtbplemhjhpfkgaaDoorW.PrintLast YtbplemhjhpfkgaaDoorW.PrintMore
theorem infoU8 : (Tryd.prog.info? 5).map (fun i => (i.zero, i.size, i.bytes)) = some (some (.int .u8 0), 1, 1) := by kernel_rfl

def Byt (bs : List Int) : Prop := ∀ b ∈ bs, 0 ≤ b ∧ b < 256
def IsRd (w0 W : World) (g : Nat) (bs : List Int) (bad : Bool) : Prop :=
 Byt bs ∧ ∃ A c, W.heap[g]? = some (.cells #[.slice A bs.length c, .bool bad] 153 (0, 0)) ∧ w0.heap.size ≤ g ∧ bs.length ≤ c ∧ Kd.C (Kd.int .u8) w0 A bs.length bs

theorem rd_cell0 {W : World} {g : Nat} {A : Option Addr} {n c : Nat} {bad : Bool} (h : W.heap[g]? = some (.cells #[.slice A n c, .bool bad] 153 (0, 0))) : W.cell? ⟨g, 0, none⟩ = some (.slice A n c) := (blk_cell h 0).trans rfl
theorem rd_cell1 {W : World} {g : Nat} {A : Option Addr} {n c : Nat} {bad : Bool} (h : W.heap[g]? = some (.cells #[.slice A n c, .bool bad] 153 (0, 0))) : W.cell? ⟨g, 1, none⟩ = some (.bool bad) := (blk_cell h 1).trans rfl

theorem C_nil {α : Type} (d : Kd α) (w : World) : Kd.C d w none ([] : List α).length [] := ⟨rfl, by simp, fun h => absurd h (by simp)⟩

theorem IsRd.grown {w0 W W1 : World} {g : Nat} {bs : List Int} {bad : Bool} {row : Option Nat} (h : IsRd w0 W g bs bad) (hw : W.grownBy W1 row) (hne : some g ≠ row) : IsRd w0 W1 g bs bad := by
 obtain ⟨hy, A, c, hb, hg, hc, hr⟩ := h; exact ⟨hy, A, c, blk_grown hb hw hne, hg, hc, hr⟩
theorem IsRd.below {w0 W W1 : World} {g : Nat} {bs : List Int} {bad : Bool} (h : IsRd w0 W g bs bad) (hw : Below W.heap.size W W1) : IsRd w0 W1 g bs bad := h.grown (grown_of_below hw none) (by simp)
theorem IsRd.alloc {w0 W : World} {g : Nat} {bs : List Int} {bad : Bool} (h : IsRd w0 W g bs bad) (o : Obj) : IsRd w0 (W.alloc o) g bs bad := h.below (below_alloc (Below.refl _ _) o)
theorem IsRd.drewN {w0 W : World} {g : Nat} {bs : List Int} {bad : Bool} (h : IsRd w0 W g bs bad) (m : Nat) : IsRd w0 (W.drewN m) g bs bad := h
theorem IsRd.lt {w0 W : World} {g : Nat} {bs : List Int} {bad : Bool} (h : IsRd w0 W g bs bad) : g < W.heap.size := by
 obtain ⟨_, A, c, hb, _⟩ := h; exact blk_lt hb
theorem IsRd.keep {w0 W W1 : World} {g g' : Nat} {bs : List Int} {bad : Bool} (h : IsRd w0 W g bs bad) (hk : KeepBut W W1 g' none) (hne : g ≠ g') : IsRd w0 W1 g bs bad := by
 obtain ⟨hy, A, c, hb, hg, hc, hr⟩ := h; exact ⟨hy, A, c, hk.blk hb hne (by simp), hg, hc, hr⟩

def takes (bs : List Int) (bad : Bool) (n : Int) : List Int × List Int × Bool :=
 if bad = true ∨ (bs.length : Int) < n then ([], bs, true) else (bs.take n.toNat, bs.drop n.toNat, false)

set_option maxHeartbeats 800000 in
theorem take_calls (g : Nat) (bs : List Int) (bad : Bool) (n : Int) (h0 : 0 ≤ n) (w0 w : World) (hI : IsRd w0 w g bs bad) (hB : Below w0.heap.size w0 w) :
  Calls Tryd.prog 103 #[.pointer (some ⟨g, 0, none⟩), .int .i64 n] w fun e w' => ∃ A c, e = .returned (.slice A (takes bs bad n).1.length c) ∧ (takes bs bad n).1.length ≤ c ∧
   Kd.C (Kd.int .u8) w0 A (takes bs bad n).1.length (takes bs bad n).1 ∧ IsRd w0 w' g (takes bs bad n).2.1 (takes bs bad n).2.2 ∧ Below w0.heap.size w0 w' ∧ KeepBut w w' g none := by
 obtain ⟨hby, A, c, hb, hg, hc, hr⟩ := hI; have HY := sd hby; clear hby; have hc0 := rd_cell0 hb; have hc1 := rd_cell1 hb; have hf0 := blk_frozen hb 0; have hf1 := blk_frozen hb 1; have HB := sd hB; have HB1 := sd hb; have HR := sd hr; have HC := sd hc; have HG := sd hg; clear hB hb hr hc hg; have bads : (takes bs true n) = ([], bs, true) := by simp [takes]
 cases bad with
 | true =>
  have BADS := sd bads; clear bads
  go_enter Tryd.func103, Tryd.ntmps103
  go_wp2; go_ret; rw [BADS.out]; exact ⟨none, 0, rfl, by simp, C_nil _ _, ⟨HY.out, A, c, by simpa using blk_set HB1.out 1 (.bool true), HG.out, HC.out, HR.out⟩, below_set HB.out HG.out, (KeepBut.refl _ _ _).set_ _ _⟩
 | false =>
  clear bads
  by_cases hn : (bs.length : Int) < n
  ·have BADS : Aside0 (takes bs false n = ([], bs, true)) := ⟨by simp [takes, hn]⟩
   go_enter Tryd.func103, Tryd.ntmps103
   go_wp2; go_ret; rw [BADS.out]; exact ⟨none, 0, rfl, by simp, C_nil _ _, ⟨HY.out, A, c, by simpa using blk_set HB1.out 1 (.bool true), HG.out, HC.out, HR.out⟩, below_set HB.out HG.out, (KeepBut.refl _ _ _).set_ _ _⟩
  ·have BADS : Aside0 (takes bs false n = (bs.take n.toNat, bs.drop n.toNat, false)) := ⟨by simp [takes, hn]⟩; have hle : n ≤ bs.length := by omega
   obtain ⟨i0, hi0, _, hsz0, _⟩ := info_parts infoU8; obtain ⟨hcut, hA, hC⟩ := print_take_of (P := Tryd.prog) (Value.int .u8) 0 22 5 .i64 Tryd.underlying22 hi0 hsz0 A c bs n h0 hle HC.out; obtain ⟨A', hcut', hA', hC'⟩ := print_drop_of (P := Tryd.prog) (Value.int .u8) 0 22 5 .i64 Tryd.underlying22 hi0 hsz0 A c bs n h0 hle HC.out; have HA := sd hA; have HC1 := sd hC; have HA' := sd hA'; have HC' := sd hC'; clear hA hC hA' hC' hi0 hsz0
   go_enter Tryd.func103, Tryd.ntmps103
   go_wp2; go_ret; rw [BADS.out]; have hlt : (bs.take n.toNat).length = n.toNat := by rw [List.length_take]; omega
   have hld : (bs.drop n.toNat).length = bs.length - n.toNat := List.length_drop; have hb1 := blk_set HB1.out 0 (.slice A' (bs.length - n.toNat) (c - n.toNat)); rw [← hld] at hb1; refine ⟨A, c, by rw [hlt]; rfl, HC1.out, Kd.C_of_reads (h1 := fun _ => rfl) (HA.out _ (Kd.reads_of_C HR.out)), ⟨fun b hb => HY.out b (List.mem_of_mem_drop hb), A', c - n.toNat, by rw [← hld]; simpa using hb1, HG.out, HC'.out, Kd.C_of_reads (h1 := fun _ => rfl) (HA'.out _ (Kd.reads_of_C HR.out))⟩, below_set HB.out HG.out, (KeepBut.refl _ _ _).set_ _ _⟩

theorem bytes_at {w : World} {A : Option Addr} {n : Nat} {xs : List Int} (h : Kd.C (Kd.int .u8) w A n xs) (i : Nat) (hi : i < n) : ∃ ad, A = some ad ∧ w.cell? (ad.add i) = some (.int .u8 (xs.getD i 0)) := by
 obtain ⟨ad, e, hc⟩ := Kd.at_int h (i : Int) (by omega) (by omega); exact ⟨ad, e, by simpa [rd] using hc⟩

theorem add_zero_ (a : Addr) : a.add 0 = a := by simp [Addr.add]
def byte1 (bs : List Int) (bad : Bool) : Int × List Int × Bool := if bad = true then (0, bs, true) else match bs with | [] => (0, [], true) | b :: r => (b, r, false)
theorem takes_one (bs : List Int) (bad : Bool) : (takes bs bad 1).2 = (byte1 bs bad).2 := by
 cases bad with
 | true => simp [takes, byte1]
 | false => cases bs with
  | nil => simp [takes, byte1]
  | cons b r => unfold takes byte1; rw [if_neg (by simp; omega)]; simp
theorem byte1_nil (bs : List Int) (bad : Bool) (h : (takes bs bad 1).1 = []) : (byte1 bs bad).1 = 0 := by
 cases bad with
 | true => simp [byte1]
 | false => cases bs with
  | nil => simp [byte1]
  | cons b r => unfold takes at h; rw [if_neg (by simp; omega)] at h; simp at h
set_option maxHeartbeats 800000 in
theorem byte_calls (g : Nat) (bs : List Int) (bad : Bool) (w0 w : World) (hI : IsRd w0 w g bs bad) (hB : Below w0.heap.size w0 w) :
  Calls Tryd.prog 90 #[.pointer (some ⟨g, 0, none⟩)] w fun e w' => e = .returned (.int .u8 (byte1 bs bad).1) ∧
   IsRd w0 w' g (byte1 bs bad).2.1 (byte1 bs bad).2.2 ∧ Below w0.heap.size w0 w' ∧ KeepBut w w' g none := by
 have T := take_calls g bs bad 1 (by omega) w0 w hI hB; have e1 := takes_one bs bad; have HT := Lib.hid T; clear T hI hB; cases h1 : (takes bs bad 1).1 with
 | nil =>
  have e2 := byte1_nil bs bad h1; have E1 := Lib.hid e1; have E2 := Lib.hid e2; have H1 := Lib.hid h1; clear e1 e2 h1
  go_enter Tryd.func90, Tryd.ntmps90
  go_wp2_with fail; refine HT.out.mono ?_; rintro e w' ⟨A, c, rfl, hc, hr, hI', hB', hK'⟩; rw [H1.out]; have HH := sd (And.intro hI' (And.intro hB' hK')); clear hI' hB' hK' hr; go_wp2; go_ret; rw [← E1.out, E2.out]; exact ⟨rfl, HH.out⟩
 | cons b r =>
  have hnb : bad = false := by
   revert h1; unfold takes; cases bad <;> simp
  have hbs : ∃ r', bs = b :: r' ∧ r = [] := by
   revert h1; subst hnb; unfold takes; cases bs with
   | nil => simp
   | cons x xs => simp; split <;> simp <;> rintro rfl rfl <;> simp
  obtain ⟨r', rfl, rfl⟩ := hbs; subst hnb; have E1 := Lib.hid e1; have H1 := Lib.hid h1; clear e1 h1
  go_enter Tryd.func90, Tryd.ntmps90
  go_wp2_with fail; refine HT.out.mono ?_; rintro e w' ⟨A, c, rfl, hc, hr, hI', hB', hK'⟩; rw [H1.out] at hr ⊢; have hr1 := Kd.C_below hr hB'; obtain ⟨ad, rfl, hcell⟩ := bytes_at hr1 0 (by simp); have HH := sd (And.intro hI' (And.intro hB' hK')); clear hI' hB' hK' hr hr1; rw [add_zero_] at hcell; simp only [List.getD_cons_zero] at hcell; go_wp2; go_ret; rw [← E1.out]; exact ⟨rfl, HH.out⟩

def numOf (l : List Int) : Int := l.foldl (fun n b => n * 256 + b) 0
theorem numOf_snoc (l : List Int) (b : Int) : numOf (l ++ [b]) = numOf l * 256 + b := by simp [numOf]
theorem numOf_fold (l : List Int) : ∀ n : Int, l.foldl (fun n b => n * 256 + b) n = n * 256 ^ l.length + numOf l := by
 induction l with
 | nil => intro n; simp [numOf]
 | cons b l ih =>
  intro n; have h1 := ih (n * 256 + b); have h2 := ih (0 * 256 + b); simp only [numOf, List.foldl_cons] at h1 h2 ⊢; rw [h1, h2, List.length_cons, Int.pow_succ, Int.add_mul, Int.zero_mul, Int.zero_add, Int.mul_assoc, Int.mul_comm 256, Int.add_assoc]
theorem numOf_cons (b : Int) (l : List Int) : numOf (b :: l) = b * 256 ^ l.length + numOf l := by
 have := numOf_fold l (0 * 256 + b); simp only [numOf, List.foldl_cons] at this ⊢; rw [this, Int.zero_mul, Int.zero_add]
theorem numOf_bd (l : List Int) (h : Byt l) : 0 ≤ numOf l ∧ numOf l < 256 ^ l.length := by
 induction l with
 | nil => simp [numOf]
 | cons b l ih =>
  have h1 := ih (fun x hx => h x (by simp [hx])); have h2 := h b (by simp); rw [numOf_cons, List.length_cons, Int.pow_succ]; generalize hp : (256 : Int) ^ l.length = p at *; have hp0 : 0 ≤ p := by omega
  have h3 : b * p ≤ 255 * p := Int.mul_le_mul_of_nonneg_right (by omega) hp0; have h4 : 0 ≤ b * p := Int.mul_nonneg (by omega) hp0; omega
theorem numOf_take (l : List Int) (k : Nat) (h : k < l.length) : numOf (l.take (k + 1)) = numOf (l.take k) * 256 + l[k] := by
 rw [List.take_succ_eq_append_getElem h, numOf_snoc]
theorem or_byte (x b : Int) (h0 : 0 ≤ x) (h1 : x < 72057594037927936) (h2 : 0 ≤ b) (h3 : b < 256) : bits .or .u64 (IntKind.u64.wrap (x * 256)) (IntKind.u64.wrap b) = x * 256 + b := by
 have w1 : ∀ n : Int, 0 ≤ n → n < 18446744073709551616 → IntKind.u64.wrap n = n := fun n h0 h1 => by simp [IntKind.wrap, IntKind.bits, IntKind.signed]; omega
 rw [w1 _ (by omega) (by omega), w1 b h2 (by omega)]; exact bits_join .u64 64 (by decide) (fun n h0 h1 => w1 n h0 (by simpa using h1)) 8 _ _ (by omega) (by omega) (by omega) h2 (by omega) (by omega)
theorem p256 (n : Nat) (h : n ≤ 7) : (256 : Int) ^ n ≤ 72057594037927936 := by
 have h8 : n = 0 ∨ n = 1 ∨ n = 2 ∨ n = 3 ∨ n = 4 ∨ n = 5 ∨ n = 6 ∨ n = 7 := by omega
 rcases h8 with rfl | rfl | rfl | rfl | rfl | rfl | rfl | rfl <;> decide
theorem takes_byt {bs : List Int} (h : Byt bs) (bad : Bool) (n : Int) : Byt (takes bs bad n).1 := by
 unfold takes; split
 ·exact fun b hb => absurd hb (by simp)
 ·exact fun b hb => h b (List.mem_of_mem_take hb)
theorem takes_len (bs : List Int) (bad : Bool) (n : Nat) : (takes bs bad n).1.length ≤ n := by
 unfold takes; split
 ·simp
 ·simp; omega
def number1 (bs : List Int) (bad : Bool) : Int × List Int × Bool := if bad = true ∨ bs.length < 8 then (0, bs, true) else (wrap64 (numOf (bs.take 8)), bs.drop 8, false)
theorem number1_eq (bs : List Int) (bad : Bool) : number1 bs bad = (wrap64 (numOf (takes bs bad 8).1), (takes bs bad 8).2) := by
 unfold number1 takes
 by_cases h : bad = true ∨ bs.length < 8
 ·rw [if_pos h, if_pos (h.imp_right (fun _ => by omega))]; simp [numOf, wrap64]
 ·rw [if_neg h, if_neg (fun h' => h (h'.imp_right (fun _ => by omega)))]; rfl
set_option maxHeartbeats 800000 in
theorem number_calls (g : Nat) (bs : List Int) (bad : Bool) (w0 w : World) (hI : IsRd w0 w g bs bad) (hB : Below w0.heap.size w0 w) :
  Calls Tryd.prog 91 #[.pointer (some ⟨g, 0, none⟩)] w fun e w' => e = .returned (.int .i64 (number1 bs bad).1) ∧
   IsRd w0 w' g (number1 bs bad).2.1 (number1 bs bad).2.2 ∧ Below w0.heap.size w0 w' ∧ KeepBut w w' g none := by
 have HT := Lib.hid (take_calls g bs bad 8 (by omega) w0 w hI hB); have HY := Lib.hid (takes_byt hI.1 bad 8); have HL := Lib.hid (takes_len bs bad 8); have HE := Lib.hid (number1_eq bs bad); clear hI hB
 go_enter Tryd.func91, Tryd.ntmps91
 go_wp2_with fail; refine HT.out.mono ?_; rintro e w' ⟨A, c, rfl, hc, hr, hI', hB', hK'⟩; have hr1 := Kd.C_below hr hB'; have HH := sd (And.intro hI' (And.intro hB' hK')); clear hI' hB' hK' hr; have HE' := HE; generalize hl : (takes bs bad 8).1 = l at *; have HL1 := Lib.hid hl; clear hl HT HE; have HR1 := sd hr1; have hlen : l.length ≤ 8 := HL.out; clear hr1 hc; go_wp2
 go_loop [3, 9] (fun n i => ∃ k : Nat, k ≤ l.length ∧ i = .int .i64 k ∧ n = .int .u64 (numOf (l.take k))) (fun _ i => l.length - (intOf i).toNat)
 case atStart => exact ⟨0, Nat.zero_le _, rfl, rfl⟩
 case round =>
  obtain ⟨k, hk, rfl, rfl⟩ := hrel
  by_cases hlt : k < l.length
  ·obtain ⟨ad, rfl, hcell⟩ := bytes_at HR1.out k hlt; have hb := HY.out (l.getD k 0) (by rw [List.getD_eq_getElem?_getD, List.getElem?_eq_getElem hlt]; exact List.getElem_mem hlt); have hnb := numOf_bd (l.take k) (fun x hx => HY.out x (List.mem_of_mem_take hx)); go_wp2; have hbk := hb; rw [List.getD_eq_getElem?_getD, List.getElem?_eq_getElem hlt, Option.getD_some] at hbk; have hpow : (256 : Int) ^ (l.take k).length ≤ 72057594037927936 := p256 _ (by rw [List.length_take]; omega); have hor := or_byte (numOf (l.take k)) l[k] hnb.1 (by omega) hbk.1 hbk.2
   go_round
   case rel => exact ⟨k + 1, by omega, by go_num, by rw [hor, numOf_take l k hlt]⟩
   case measure => simp [intOf]; omega
  ·obtain rfl : k = l.length := by omega
   go_wp2; go_ret; rw [HE'.out]; exact ⟨rfl, HH.out⟩

def text1 (bs : List Int) (bad : Bool) : ByteArray × List Int × Bool :=
 (strOfNums (takes (byte1 bs bad).2.1 (byte1 bs bad).2.2 (byte1 bs bad).1).1, (takes (byte1 bs bad).2.1 (byte1 bs bad).2.2 (byte1 bs bad).1).2)
theorem byte1_bd (bs : List Int) (bad : Bool) (h : Byt bs) : 0 ≤ (byte1 bs bad).1 ∧ (byte1 bs bad).1 < 256 := by
 unfold byte1; cases bad <;> cases bs <;> simp
 exact h _ (by simp)
theorem KeepBut_trans {w w1 w2 : World} {g : Nat} (h : KeepBut w w1 g none) (k : KeepBut w1 w2 g none) : KeepBut w w2 g none := h.trans k (.inl rfl)
set_option maxHeartbeats 800000 in
theorem text_calls (g : Nat) (bs : List Int) (bad : Bool) (w0 w : World) (hI : IsRd w0 w g bs bad) (hB : Below w0.heap.size w0 w) :
  Calls Tryd.prog 93 #[.pointer (some ⟨g, 0, none⟩)] w fun e w' => e = .returned (.string (text1 bs bad).1) ∧
   IsRd w0 w' g (text1 bs bad).2.1 (text1 bs bad).2.2 ∧ Below w0.heap.size w0 w' ∧ KeepBut w w' g none := by
 have HB1 := Lib.hid (byte_calls g bs bad w0 w hI hB); have hbd := byte1_bd bs bad hI.1; clear hI hB; unfold text1; generalize hz : byte1 bs bad = z at *; obtain ⟨n, bs1, bad1⟩ := z; clear hz
 simp only at HB1 hbd ⊢
 go_enter Tryd.func93, Tryd.ntmps93
 go_wp2_with fail; refine HB1.out.mono ?_; rintro e w1 ⟨rfl, hI, hB, hK⟩; have HT := Lib.hid (take_calls g bs1 bad1 n hbd.1 w0 w1 hI hB); have HK := sd hK; clear hI hB hK HB1; go_wp2_with fail; refine HT.out.mono ?_; rintro e w' ⟨A, c, rfl, hc, hr, hI', hB', hK'⟩; have hcv := Kd.C_string (P := Tryd.prog) (src := 22) (dst := 9) (c := c) Tryd.underlying22 Tryd.underlying5 Tryd.underlying9 (Kd.C_below hr hB'); have HH := sd (And.intro hI' (And.intro hB' (KeepBut_trans HK.out hK'))); clear hI' hB' hK' hr HT HK; go_wp2; go_ret; exact ⟨rfl, HH.out⟩

theorem good_calls (g : Nat) (bs : List Int) (bad : Bool) (w0 w : World) (hI : IsRd w0 w g bs bad) :
  Calls Tryd.prog 92 #[.pointer (some ⟨g, 0, none⟩)] w fun e w' => e = .returned (.bool (!bad)) ∧ w = w' := by
 obtain ⟨_, A, c, hb, _⟩ := hI; have hc1 := rd_cell1 hb; clear hb
 go_enter Tryd.func92, Tryd.ntmps92
 go_wp2; go_ret; exact ⟨rfl, rfl⟩
theorem done_calls (g : Nat) (bs : List Int) (bad : Bool) (w0 w : World) (hI : IsRd w0 w g bs bad) :
  Calls Tryd.prog 65 #[.pointer (some ⟨g, 0, none⟩)] w fun e w' => e = .returned (.bool (!bad && bs.isEmpty)) ∧ w = w' := by
 obtain ⟨_, A, c, hb, _⟩ := hI; have hc0 := rd_cell0 hb; have hc1 := rd_cell1 hb; clear hb; cases bad
 ·have he : ((bs.length : Int) == 0) = bs.isEmpty := by cases bs <;> simp <;> omega
  go_enter Tryd.func65, Tryd.ntmps65
  go_wp2; go_ret; exact ⟨by simp, rfl⟩
 ·go_enter Tryd.func65, Tryd.ntmps65
  go_wp2; go_ret; exact ⟨rfl, rfl⟩

theorem own_empty (w : World) : Kd.R (Kd.int .u8) 5 (w.alloc (.cells #[] 5)) w.heap.size (fun _ => True) (.slice (some ⟨w.heap.size, 0, none⟩) 0 0) [] :=
 ⟨fun _ _ => trivial, [], by show World.ownsRow _ _ _ 1 _ _ _; simpa using World.ownsRow_lit (base := w.heap.size) (e := 5) (size := 1) w #[] 0 (Nat.le_refl _) (by simp) rfl, Reps.none _ _⟩
set_option maxHeartbeats 800000 in
theorem read_calls (A : Option Addr) (c : Nat) (xs : List Int) (w : World) (hr : Kd.C (Kd.int .u8) w A xs.length xs) (hy : Byt xs) (hm : xs.length ≤ 140737488355328) :
  Calls Tryd.prog 63 #[.slice A xs.length c] w fun e w' => ∃ w0 g, e = .returned (.pointer (some ⟨g, 0, none⟩)) ∧ IsRd w0 w' g xs false ∧ Below w.heap.size w w0 ∧ Below w0.heap.size w0 w' := by
 have HR := sd hr; have HY := sd hy; clear hr hy
 go_enter Tryd.func63, Tryd.ntmps63
 go_wp2_with (first | ((with_reducible refine gate_builtin (b := .append) (xs := #[.tmp 3, .tmp 4]) rfl ?_); at_builtin; refine Kd.R_append_row (Value.int .u8) (0 : Int) (h1 := fun _ => rfl) (w0 := w) w.heap.size rfl (.tmp 3) (.tmp 4) 22 5 (.int .u8 0) 1 rfl Tryd.underlying22 infoU8 rfl (by decide) (.slice (some ⟨w.heap.size, 0, none⟩) 0 0) [] xs A xs.length c (fun _ => True) rfl rfl (fun _ _ => trivial) ?aO ?aR ?aB ?aS ?aL ?_; (case aO => exact own_empty w); (case aR => exact Kd.C_alloc HR.out _); (case aB => exact below_alloc (Below.refl _ _) _); (case aS => simp); (case aL => simp; omega); intro v1 w1 ho hb hg hat; simp only [List.nil_append] at ho; obtain ⟨A1, c1, rfl, hc1, hr1⟩ := Kd.R_reads ho; have HO := sd hr1; have HC := sd hc1; have HB := sd hb; clear ho hb hg hat hr1 hc1)); go_ret; exact ⟨w1, w1.heap.size, rfl, ⟨HY.out, A1, c1, by simpa using heap_alloc_new w1 _, Nat.le_refl _, HC.out, HO.out⟩, HB.out, below_alloc (Below.refl _ _) _⟩
end Go.Proofs.YtbplemhjhpfkgaaDoor.Rd
namespace Go.Proofs.YtbplemhjhpfkgaaDoor.Rd
open Go.RowKit YtbplemhjhpfkgaaDoorW.PrintWords YtbplemhjhpfkgaaDoorW.PrintLast YtbplemhjhpfkgaaDoorW.PrintMore
def byteAt (x : Int) (j : Nat) : Int := (x / 2 ^ (8 * (7 - j))) % 256
def be8 (x : Int) : List Int := [byteAt x 0, byteAt x 1, byteAt x 2, byteAt x 3, byteAt x 4, byteAt x 5, byteAt x 6, byteAt x 7]
theorem be8_len (x : Int) : (be8 x).length = 8 := rfl
theorem be8_take (x : Int) (j : Nat) (h : j < 8) : (be8 x).take (j + 1) = (be8 x).take j ++ [byteAt x j] := by
 have h8 : j = 0 ∨ j = 1 ∨ j = 2 ∨ j = 3 ∨ j = 4 ∨ j = 5 ∨ j = 6 ∨ j = 7 := by omega
 rcases h8 with rfl | rfl | rfl | rfl | rfl | rfl | rfl | rfl <;> rfl
def be8s (xs : List Int) : List Int := xs.flatMap be8
theorem be8s_len (xs : List Int) : (be8s xs).length = 8 * xs.length := by
 unfold be8s
 induction xs with
 | nil => rfl
 | cons x xs ih => simp only [List.flatMap_cons, List.length_append, ih, be8_len, List.length_cons]; omega
theorem be8s_take (xs : List Int) (k : Nat) (h : k < xs.length) : be8s (xs.take (k + 1)) = be8s (xs.take k) ++ be8 (xs.getD k 0) := by
 unfold be8s; rw [List.take_succ_eq_append_getElem h, List.flatMap_append, List.getD_eq_getElem?_getD, List.getElem?_eq_getElem h]
 simp

theorem nums_at {w : World} {A : Option Addr} {n : Nat} {xs : List Int} (h : Kd.C (Kd.int .i64) w A n xs) (i : Nat) (hi : i < n) : ∃ ad, A = some ad ∧ w.cell? (ad.add i) = some (.int .i64 (xs.getD i 0)) := by
 obtain ⟨ad, e, hc⟩ := Kd.at_int h (i : Int) (by omega) (by omega); exact ⟨ad, e, by simpa [rd] using hc⟩

set_option maxHeartbeats 1600000 in
theorem num_calls (A : Option Addr) (c : Nat) (xs : List Int) (w : World) (hr : Kd.C (Kd.int .i64) w A xs.length xs) (hm : xs.length * 8 ≤ 140737488355328) :
  Calls Tryd.prog 66 #[.slice A xs.length c] w fun e w' => ∃ v, e = .returned v ∧ Kd.R (Kd.int .u8) 5 w' w.heap.size (fun _ => True) v (be8s xs) ∧ Below w.heap.size w w' := by
 have HR := sd hr; clear hr
 go_enter Tryd.func66, Tryd.ntmps66
 go_wp2
 go_loopw [3, 9] (fun v i wr => ∃ k : Nat, k ≤ xs.length ∧ i = .int .i64 k ∧ Aside0 (Kd.R (Kd.int .u8) 5 wr w.heap.size (fun _ => True) v (be8s (xs.take k))) ∧ Aside0 (Below w.heap.size w wr)) (fun _ i _ => xs.length - (intOf i).toNat)
 case atStart => exact ⟨0, Nat.zero_le _, rfl, ⟨Kd.R_nil _ _ _ _ _⟩, ⟨Below.refl _ _⟩⟩
 case round =>
  obtain ⟨k, hk, rfl, HO, HB⟩ := hrel
  by_cases hlt : k < xs.length
  ·obtain ⟨ad, rfl, hcell⟩ := nums_at HR.out k hlt; replace hcell := (HB.out.cell (World.block_lt_of_cell? w _ hcell)).trans hcell; obtain ⟨wo, hwo⟩ : ∃ wo : World, wo = wr := ⟨_, rfl⟩; subst hwo; go_wp2
   go_loopw [3, 6] (fun v i w2 => ∃ j : Nat, j ≤ 8 ∧ i = .int .i64 (7 - (j : Int)) ∧ Aside0 (Kd.R (Kd.int .u8) 5 w2 w.heap.size (fun _ => True) v (be8s (xs.take k) ++ (be8 (xs.getD k 0)).take j)) ∧ Aside0 (Below w.heap.size w w2)) (fun _ i _ => (intOf i + 1).toNat)
   case atStart => exact ⟨0, by omega, rfl, ⟨by simpa using HO.out⟩, HB⟩
   case round =>
    obtain ⟨j, hj, rfl, HO2, HB2⟩ := hrel
    by_cases hj8 : j < 8
    ·have hg : xs.getD k 0 = xs[k] := by rw [List.getD_eq_getElem?_getD, List.getElem?_eq_getElem hlt]; rfl
     rw [hg] at HO2; have HG := Lib.hid hg; clear hg
     have hl : (be8s (xs.take k) ++ (be8 xs[k]).take j).length + 1 ≤ 140737488355328 := by
      rw [List.length_append, be8s_len, List.length_take, List.length_take, be8_len]; omega
     have HL := Lib.hid hl; clear hl; go_wp2_with (first | ((with_reducible refine gate_builtin (b := .append) (xs := #[.tmp 17, .tmp 23]) rfl ?_); at_builtin; refine Kd.R_append (Kd.int .u8) (w0 := w) (w.heap.size) rfl (.tmp 17) (.tmp 23) 22 5 (.int .u8 0) 1 rfl Tryd.underlying22 infoU8 rfl (by decide) (by omega) (u3) (be8s (xs.take k) ++ (be8 xs[k]).take j) (xs[k] / 2 ^ (8 * (7 - j)) % 256) [.int .u8 (xs[k] / 2 ^ (8 * (7 - j)) % 256)] (fun _ => True) (fun _ => False) rfl rfl ?aP (fun _ hk => hk.elim) ?aF ?aO ?aB ?aS ?aL ?_; (case aP => exact rfl); (case aB => exact (by repeat (with_reducible first | exact HB2.out | apply below_alloc | apply pw_below_drewN | apply below_drew1))); (case aF => exact (fun _ _ => trivial)); (case aO => exact (by (with_reducible repeat (first | apply Kd.R_alloc | apply Kd.R_drewN | apply Kd.R_drew)); exact HO2.out)); (case aS => exact (below_size (by repeat (with_reducible first | exact HB2.out | apply below_alloc | apply pw_below_drewN | apply below_drew1)))); (case aL => have := HL.out; omega); intro v1 w1 ho hb hg hat; have HO3 := sd ho; have HB3 := sd hb; clear ho hb hg hat))
     go_roundw
     case rel => exact ⟨j + 1, by omega, by go_num, ⟨by rw [HG.out, be8_take _ _ hj8, ← List.append_assoc]; exact HO3.out⟩, HB3⟩
     case measure => simp [intOf]; omega
    ·obtain rfl : j = 8 := by omega
     go_wp2
     go_roundw
     case rel => exact ⟨k + 1, by omega, by go_num, ⟨by rw [be8s_take xs k hlt]; exact HO2.out⟩, HB2⟩
     case measure => simp [intOf]; omega
  ·obtain rfl : k = xs.length := by omega
   have HO1 : Aside0 (Kd.R (Kd.int .u8) 5 wr w.heap.size (fun _ => True) u3 (be8s xs)) := ⟨by have := HO.out; rwa [List.take_length] at this⟩; go_wp2; go_ret; exact ⟨_, rfl, HO1.out, HB.out⟩

theorem own_one (w : World) (x : Int) : (w.alloc (.cells #[.int .u8 x] 5)).ownsRow w.heap.size 5 1 (.slice (some ⟨w.heap.size, 0, none⟩) 1 1) [x].length (nums .u8 [x]) := by
 simpa [nums] using World.ownsRow_lit (base := w.heap.size) (e := 5) (size := 1) w #[.int .u8 x] 1 (Nat.le_refl _) (by simp [maxLen]) rfl
theorem C_lit (k : IntKind) (xs : List Int) (w : World) (t : TypeId) (hm : xs.length ≤ 9223372036854775807) : Kd.C (Kd.int k) (w.alloc (.cells (nums k xs).toArray t)) (some ⟨w.heap.size, 0, none⟩) xs.length xs := by
 refine Kd.C_of_reads (d := (0 : Int)) (h1 := fun _ => rfl) ⟨rfl, hm, fun _ => ⟨_, rfl, fun j hj => ?_⟩⟩; rw [add_plain, blk_cell (blk_new w _) j]
 simp [nums, List.getD_eq_getElem?_getD, List.getElem?_eq_getElem hj]
def within (n lo hi : Int) : Int := lo + n % (hi - lo + 1)
theorem within_bd (n lo hi : Int) (h : lo ≤ hi) : lo ≤ within n lo hi ∧ within n lo hi ≤ hi := by
 have h1 := Int.emod_nonneg n (show hi - lo + 1 ≠ 0 by omega); have h2 := Int.emod_lt_of_pos n (show 0 < hi - lo + 1 by omega); unfold within; omega
theorem tmod_parts (n m : Int) (hm : 0 < m) : (0 ≤ Int.tmod n m → Int.tmod n m = n % m) ∧ (Int.tmod n m < 0 → Int.tmod n m + m = n % m) ∧ - m < Int.tmod n m ∧ Int.tmod n m < m := by
 have h1 := Int.emod_nonneg n (show m ≠ 0 by omega); have h2 := Int.emod_lt_of_pos n hm; have h3 := Int.tmod_eq_emod (a := n) (b := m)
 split at h3 <;> omega
set_option maxHeartbeats 800000 in
theorem within_calls (n lo hi : Int) (w : World) (hl : -1000000000000000000 ≤ lo) (hh : lo ≤ hi) (hb : hi ≤ 1000000000000000000) :
  Calls Tryd.prog 24 #[.int .i64 n, .int .i64 lo, .int .i64 hi] w fun e w' => e = .returned (.int .i64 (within n lo hi)) ∧ w = w' := by
 obtain ⟨h1, h2, h3, h4⟩ := tmod_parts n (hi - lo + 1) (by omega); have hz : ((hi - lo + 1) == 0) = false := by simp; omega
 have hz1 : hi - lo + 1 ≠ 0 := by omega
 have hpos : 0 < hi - lo + 1 := by omega
 by_cases hneg : Int.tmod n (hi - lo + 1) < 0
 ·have HE : Hid (within n lo hi = lo + (Int.tmod n (hi - lo + 1) + hi - lo + 1)) := by unfold within; rw [← h2 hneg]; exact Lib.hid (by omega)
  clear h1 h2
  go_enter Tryd.func24, Tryd.ntmps24
  go_wp2; go_ret; rw [HE.out]; exact ⟨rfl, rfl⟩
 ·have HE : Hid (within n lo hi = lo + Int.tmod n (hi - lo + 1)) := by unfold within; rw [← h1 (by omega)]; exact Lib.hid rfl
  clear h1 h2
  go_enter Tryd.func24, Tryd.ntmps24
  go_wp2; go_ret; rw [HE.out]; exact ⟨rfl, rfl⟩

def text8 (s : ByteArray) : List Int := if s.size > 255 then [] else (s.size : Int) :: bytesOf s
set_option maxHeartbeats 800000 in
theorem txt_calls (s : ByteArray) (w : World) :
  Calls Tryd.prog 77 #[.string s] w fun e w' => ∃ v, e = .returned v ∧ Kd.R (Kd.int .u8) 5 w' w.heap.size (fun _ => True) v (text8 s) ∧ Below w.heap.size w w' := by
 by_cases hs : s.size > 255
 ·have HE : Hid (text8 s = []) := Lib.hid (by unfold text8; rw [if_pos hs])
  go_enter Tryd.func77, Tryd.ntmps77
  go_wp2; go_ret; rw [HE.out]; exact ⟨_, rfl, Kd.R_nil _ _ _ _ _, Below.refl _ _⟩
 ·have HE : Hid (text8 s = [(s.size : Int)] ++ bytesOf s) := Lib.hid (by unfold text8; rw [if_neg hs]; rfl); have hs' : s.size ≤ 255 := by omega
  clear hs
  go_enter Tryd.func77, Tryd.ntmps77
  go_wp2_with (first | (at_builtin; refine print_append_str (w0 := w) w.heap.size rfl (.tmp 9) _ 22 9 5 rfl Tryd.underlying22 Tryd.underlying9 infoU8 (.slice (some ⟨w.heap.size, 0, none⟩) 1 1) [(s.size : Int)] s rfl rfl ?aO ?aB ?aS ?aL ?_; (case aO => exact own_one w _); (case aB => exact below_alloc (Below.refl _ _) _); (case aS => simp); (case aL => simp; omega); intro v1 w1 ho hb hg; have HO := sd ho; have HB := sd hb; clear ho hb hg)); go_ret; rw [HE.out]; exact ⟨_, rfl, Kd.R_of_own HO.out (fun _ _ => trivial), HB.out⟩
end Go.Proofs.YtbplemhjhpfkgaaDoor.Rd
namespace Go.Proofs.YtbplemhjhpfkgaaDoor.Rd
open Go.RowKit YtbplemhjhpfkgaaDoorW.PrintWords YtbplemhjhpfkgaaDoorW.PrintLast YtbplemhjhpfkgaaDoorW.PrintMore
theorem cells_at {w0 w : World} (h : Below w0.heap.size w0 w) {a : Addr} {v : Value} (hc : w0.cell? a = some v) : w.cell? a = some v := (h.cell (World.block_lt_of_cell? w0 a hc)).trans hc
def Far (v s : Value) : Prop := ∀ k, v.ownBlock = some k → some k ≠ s.ownBlock
theorem far_new {v s : Value} {N : Nat} (hv : ∀ k, v.ownBlock = some k → k < N) (hs : ∀ k, s.ownBlock = some k → N ≤ k) : Far v s := by
 intro k hk he; have h1 := hv k hk; have h2 := hs k he.symm; omega
theorem own_oneR (w : World) (x : Int) : Kd.R (Kd.int .u8) 5 (w.alloc (.cells #[.int .u8 x] 5)) w.heap.size (fun _ => True) (.slice (some ⟨w.heap.size, 0, none⟩) 1 1) [x] :=
 Kd.R_of_own (enc := Value.int .u8) (h1 := fun _ => rfl) (by simpa [encs] using World.ownsRow_lit (base := w.heap.size) (e := 5) (size := 1) w #[.int .u8 x] 1 (Nat.le_refl _) (by simp [maxLen]) rfl) (fun _ _ => trivial)
theorem cat_step_at {P : Program} {ops : Array Oper} {o : Oper} {a : Act} {Q : Exit → Act → World → Prop} {Kc : Act → World → Prop} {α : Type} (d : Kd α) (hf : ∀ W base ok x cs, d.K W x cs → d.M W base ok x cs) (w0 W : World) (base : Nat) (hw : Region.wanted o (yielded ops a.tmps) = true) (s x : Operand) (t e : TypeId) (z : Value) (bytes : Nat)
  (ho : o.op = .call { callee := .builtin .append, args := #[s, x], argTypes := #[t, t] })
  (ht : P.underlying t = some (.slice e)) (hinfo : (P.info? e).map (fun i => (i.zero, i.size, i.bytes)) = some (some z, d.sz, bytes)) (hz : z.cells.size = d.sz) (hs0 : 0 < d.sz) (hb0 : 0 < bytes)
  (v : Value) (xs ys : List α) (A : Option Addr) (m c : Nat) (hs : a.eval s = v) (hx : a.eval x = .slice A m c)
  (HO : d.R e W base (fun _ => True) v xs) (HR : d.C W A m ys) (HB : Below base w0 W) (hbase : base ≤ W.heap.size) (hl : (xs.length + m) * bytes ≤ 140737488355328)
  (h : ∀ v1 w1, d.R e w1 base (fun _ => True) v1 (xs ++ ys) → Below base w0 w1 → W.grownBy w1 v.ownBlock → (v1.ownBlock = v.ownBlock ∨ ∃ b, v1.ownBlock = some b ∧ W.heap.size ≤ b) → Kc (a.put o.dst v1) w1) :
  if Region.wanted o (yielded ops a.tmps) = true then Oper.wp P o a W Kc Q else Kc (a.put o.dst undef) W :=
 Kd.R_append_rows_step d base hw s x t e z bytes ho ht hinfo hz hs0 hb0 v xs ys A m c (fun _ => True) (fun _ => False) hs hx HO HR (fun x cs h => hf _ _ _ _ _ h) (fun _ h => h.elim) (fun _ _ => trivial) HB hbase hl h
theorem intKM {k : IntKind} : ∀ W base ok x cs, (Kd.int k).K W x cs → (Kd.int k).M W base ok x cs := fun _ _ _ _ _ h => h
end Go.Proofs.YtbplemhjhpfkgaaDoor.Rd
namespace Go.Proofs.YtbplemhjhpfkgaaDoor.Cd
open Go.RowKit YtbplemhjhpfkgaaDoorW.PrintWords YtbplemhjhpfkgaaDoorW.PrintLast YtbplemhjhpfkgaaDoorW.PrintMore Rd
def flat {α : Type} (n : Nat) (enc : α → List Value) (hl : ∀ x, (enc x).length = n) (h1 : ∀ x u, u ∈ enc x → u.oneCell' = true) : Kd α where
 sz := n
 E := []
 K := fun _ x cs => cs = enc x
 M := fun _ _ _ x cs => cs = enc x
 K_len := fun h => by rw [h]; exact hl _
 K_one := fun h u hu => h1 _ u (by rw [← h]; exact hu)
 K_below := fun _ h => h
 K_of_M := fun h => h
 M_mono := fun _ h => h
 M_bound := fun h => h
 M_move := fun _ h => h
 M_lower := fun _ h => h
theorem flatKM {α : Type} {n : Nat} {enc : α → List Value} {hl : ∀ x, (enc x).length = n} {h1 : ∀ x u, u ∈ enc x → u.oneCell' = true} : ∀ W base ok x cs, (flat n enc hl h1).K W x cs → (flat n enc hl h1).M W base ok x cs := fun _ _ _ _ _ h => h
abbrev Co := ByteArray × Int × Int × Int × ByteArray
abbrev At := ByteArray × Bool × Int × ByteArray
def kCo : Kd Co := flat 5 (fun x => [.string x.1, .int .i64 x.2.1, .int .i64 x.2.2.1, .int .i64 x.2.2.2.1, .string x.2.2.2.2]) (fun _ => rfl) (by intro x u hu; simp at hu; rcases hu with rfl | rfl | rfl | rfl | rfl <;> rfl)
def kAt : Kd At := flat 4 (fun x => [.string x.1, .bool x.2.1, .int .i64 x.2.2.1, .string x.2.2.2]) (fun _ => rfl) (by intro x u hu; simp at hu; rcases hu with rfl | rfl | rfl | rfl <;> rfl)
theorem at_Co {w : World} {A : Option Addr} {n : Nat} {xs : List Co} (h : Kd.C kCo w A n xs) (i : Nat) (h1 : i < n) : ∃ (ad : Addr) (x : Co), A = some ad ∧ xs[i]? = some x ∧ w.cell? (ad.add (i * 5)) = some (.string x.1) ∧
  w.cell? ⟨(ad.add (i * 5)).block, (ad.add (i * 5)).off + 1, none⟩ = some (.int .i64 x.2.1) ∧ w.cell? ⟨(ad.add (i * 5)).block, (ad.add (i * 5)).off + 2, none⟩ = some (.int .i64 x.2.2.1) ∧ w.cell? ⟨(ad.add (i * 5)).block, (ad.add (i * 5)).off + 3, none⟩ = some (.int .i64 x.2.2.2.1) ∧ w.cell? ⟨(ad.add (i * 5)).block, (ad.add (i * 5)).off + 4, none⟩ = some (.string x.2.2.2.2) := by
 obtain ⟨ad, e, hc⟩ := h.2.2 (by omega); have hl : i < xs.length := by have := h.1; omega
 obtain ⟨c, hs, hr, hcell⟩ := hc i _ (List.getElem?_eq_getElem hl); have hr' : c = [.string xs[i].1, .int .i64 xs[i].2.1, .int .i64 xs[i].2.2.1, .int .i64 xs[i].2.2.2.1, .string xs[i].2.2.2.2] := hr; subst hr'; have hcell' : ∀ j u, [Value.string xs[i].1, .int .i64 xs[i].2.1, .int .i64 xs[i].2.2.1, .int .i64 xs[i].2.2.2.1, .string xs[i].2.2.2.2][j]? = some u → w.cell? (ad.add (i * 5 + j)) = some u := hcell; exact ⟨ad, xs[i], e, List.getElem?_eq_getElem hl, hcell' 0 _ rfl, by rw [← add_field _ _ 1 (by omega)]; exact hcell' 1 _ rfl, by rw [← add_field _ _ 2 (by omega)]; exact hcell' 2 _ rfl, by rw [← add_field _ _ 3 (by omega)]; exact hcell' 3 _ rfl, by rw [← add_field _ _ 4 (by omega)]; exact hcell' 4 _ rfl⟩
theorem at_At {w : World} {A : Option Addr} {n : Nat} {xs : List At} (h : Kd.C kAt w A n xs) (i : Nat) (h1 : i < n) : ∃ (ad : Addr) (x : At), A = some ad ∧ xs[i]? = some x ∧ w.cell? (ad.add (i * 4)) = some (.string x.1) ∧
  w.cell? ⟨(ad.add (i * 4)).block, (ad.add (i * 4)).off + 1, none⟩ = some (.bool x.2.1) ∧ w.cell? ⟨(ad.add (i * 4)).block, (ad.add (i * 4)).off + 2, none⟩ = some (.int .i64 x.2.2.1) ∧ w.cell? ⟨(ad.add (i * 4)).block, (ad.add (i * 4)).off + 3, none⟩ = some (.string x.2.2.2) := by
 obtain ⟨ad, e, hc⟩ := h.2.2 (by omega); have hl : i < xs.length := by have := h.1; omega
 obtain ⟨c, hs, hr, hcell⟩ := hc i _ (List.getElem?_eq_getElem hl); have hr' : c = [.string xs[i].1, .bool xs[i].2.1, .int .i64 xs[i].2.2.1, .string xs[i].2.2.2] := hr; subst hr'; have hcell' : ∀ j u, [Value.string xs[i].1, .bool xs[i].2.1, .int .i64 xs[i].2.2.1, .string xs[i].2.2.2][j]? = some u → w.cell? (ad.add (i * 4 + j)) = some u := hcell; exact ⟨ad, xs[i], e, List.getElem?_eq_getElem hl, hcell' 0 _ rfl, by rw [← add_field _ _ 1 (by omega)]; exact hcell' 1 _ rfl, by rw [← add_field _ _ 2 (by omega)]; exact hcell' 2 _ rfl, by rw [← add_field _ _ 3 (by omega)]; exact hcell' 3 _ rfl⟩
theorem nilCo (w : World) : Kd.C kCo w none 0 [] := ⟨rfl, by omega, fun h => by omega⟩
theorem nilAt (w : World) : Kd.C kAt w none 0 [] := ⟨rfl, by omega, fun h => by omega⟩
theorem C_blk64 {w : World} {g : Nat} {t : TypeId} {xs : List Int} (h : w.heap[g]? = some (.cells (nums .i64 xs).toArray t (0, 0))) (hm : xs.length ≤ 9223372036854775807) : Kd.C (Kd.int .i64) w (some ⟨g, 0, none⟩) xs.length xs := by
 refine Kd.C_of_reads (d := (0 : Int)) (h1 := fun _ => rfl) ⟨rfl, hm, fun _ => ⟨_, rfl, fun j hj => ?_⟩⟩; rw [add_plain, blk_cell h j]
 simp [nums, List.getD_eq_getElem?_getD, List.getElem?_eq_getElem hj]

def fl (b : Bool) : Int := if b = true then 1 else 0
def cB (x : Co) : List Int := text8 x.1 ++ [x.2.1 % 256] ++ be8s [x.2.2.1, x.2.2.2.1] ++ text8 x.2.2.2.2
def aB (x : At) : List Int := text8 x.1 ++ [fl x.2.1] ++ be8s [x.2.2.1] ++ text8 x.2.2.2
theorem text8_le (s : ByteArray) : (text8 s).length ≤ 256 := by
 unfold text8
 split
 ·simp
 ·simp only [List.length_cons, bytesOf_length]; omega
theorem cB_le (x : Co) : (cB x).length ≤ 529 := by
 have h1 := text8_le x.1; have h2 := text8_le x.2.2.2.2; simp only [cB, List.length_append, List.length_cons, List.length_nil, be8s_len]; omega
theorem aB_le (x : At) : (aB x).length ≤ 521 := by
 have h1 := text8_le x.1; have h2 := text8_le x.2.2.2; simp only [aB, List.length_append, List.length_cons, List.length_nil, be8s_len]; omega
theorem flatMap_le {α : Type} (f : α → List Int) (m : Nat) (h : ∀ x, (f x).length ≤ m) : ∀ l : List α, (l.flatMap f).length ≤ m * l.length
 | [] => by simp
 | x :: l => by
  have h1 := flatMap_le f m h l; have h2 := h x; rw [List.flatMap_cons, List.length_append, List.length_cons, Nat.mul_succ]; omega
theorem take_snocF {α : Type} (f : α → List Int) {l : List α} {j : Nat} {x : α} (h : l[j]? = some x) : (l.take (j + 1)).flatMap f = (l.take j).flatMap f ++ f x := by
 rw [List.take_add_one, h]
 simp
def opB (k kc kq kh ka kt : Int) (l6 : List Co) (l7 : List At) (l8 : List Int) : List Int :=
 [k % 256] ++ be8s [kc, kq, kh, ka, kt] ++ [(l6.length : Int) % 256] ++ l6.flatMap cB ++ [(l7.length : Int) % 256] ++ l7.flatMap aB ++ text8 (strOfNums l8)
set_option maxHeartbeats 800000 in
theorem flag_calls (b : Bool) (w : World) : Calls Tryd.prog 78 #[.bool b] w fun e w' => e = .returned (.int .u8 (fl b)) ∧ w = w' := by
 cases b
 ·go_enter Tryd.func78, Tryd.ntmps78
  go_wp2; go_ret; exact ⟨rfl, rfl⟩
 ·go_enter Tryd.func78, Tryd.ntmps78
  go_wp2; go_ret; exact ⟨rfl, rfl⟩
end Go.Proofs.YtbplemhjhpfkgaaDoor.Cd
namespace Go.Proofs.YtbplemhjhpfkgaaDoor.Cd
open Go.RowKit YtbplemhjhpfkgaaDoorW.PrintWords YtbplemhjhpfkgaaDoorW.PrintLast YtbplemhjhpfkgaaDoorW.PrintMore Rd
theorem str_eq (a b : ByteArray) : (a.toList == b.toList) = decide (a = b) := by
 rw [Bool.eq_iff_iff]; simp only [beq_iff_eq, decide_eq_true_iff]
 constructor
 ·intro h; apply ByteArray.ext; have h2 : a.data.toList = b.data.toList := by rw [← ByteArray.toList_eq a, ← ByteArray.toList_eq b]; exact h
  exact Array.toList_inj.1 h2
 ·rintro rfl; rfl
theorem eqA_Co (d : Nat) (w : World) (x y : Co) :
  (Op.equalIn (d + 2) 44 (.agg #[.string x.1, .int .i64 x.2.1, .int .i64 x.2.2.1, .int .i64 x.2.2.2.1, .string x.2.2.2.2]) (.agg #[.string y.1, .int .i64 y.2.1, .int .i64 y.2.2.1, .int .i64 y.2.2.2.1, .string y.2.2.2.2])).run Tryd.prog w = .ok (x.1.toList == y.1.toList && (x.2.1 == y.2.1 && (x.2.2.1 == y.2.2.1 && (x.2.2.2.1 == y.2.2.2.1 && (x.2.2.2.2.toList == y.2.2.2.2.toList))))) w := by
 refine eqA_of Tryd.underlying44 (by kernel_rfl) ?_; refine eqf_cons (by rfl) (by go_simp; rfl) (by go_simp; rfl) (by go_simp) ?_; refine eqf_cons (by rfl) (by go_simp; rfl) (by go_simp; rfl) (by go_simp) ?_; refine eqf_cons (by rfl) (by go_simp; rfl) (by go_simp; rfl) (by go_simp) ?_; refine eqf_cons (by rfl) (by go_simp; rfl) (by go_simp; rfl) (by go_simp) ?_; exact eqf_last (by rfl) (by go_simp; rfl) (by go_simp; rfl) (by go_simp)
theorem eqA_Va (d : Nat) (w : World) (x0 y0 : Bool) (x1 y1 : Int) (x2 y2 : ByteArray) :
  (Op.equalIn (d + 2) 57 (.agg #[.bool x0, .int .i64 x1, .string x2]) (.agg #[.bool y0, .int .i64 y1, .string y2])).run Tryd.prog w = .ok (x0 == y0 && (x1 == y1 && (x2.toList == y2.toList))) w := by
 refine eqA_of Tryd.underlying57 (by kernel_rfl) ?_; refine eqf_cons (by rfl) (by go_simp; rfl) (by go_simp; rfl) (by go_simp) ?_; refine eqf_cons (by rfl) (by go_simp; rfl) (by go_simp; rfl) (by go_simp) ?_; exact eqf_last (by rfl) (by go_simp; rfl) (by go_simp; rfl) (by go_simp)
theorem eqA_At (d : Nat) (w : World) (x y : At) :
  (Op.equalIn (d + 3) 59 (.agg #[.string x.1, .bool x.2.1, .int .i64 x.2.2.1, .string x.2.2.2]) (.agg #[.string y.1, .bool y.2.1, .int .i64 y.2.2.1, .string y.2.2.2])).run Tryd.prog w = .ok (x.1.toList == y.1.toList && ((x.2.1 == y.2.1 && (x.2.2.1 == y.2.2.1 && (x.2.2.2.toList == y.2.2.2.toList))))) w := by
 refine eqA_of Tryd.underlying59 (by kernel_rfl) ?_; refine eqf_cons (by rfl) (by go_simp; rfl) (by go_simp; rfl) (by go_simp) ?_; exact eqf_last (by rfl) (by go_simp) (by go_simp) (eqA_Va (d + 0) w _ _ _ _ _ _)
theorem neq_Co (x y : Co) (w : World) : (binOp .neq 44 (.agg #[.string x.1, .int .i64 x.2.1, .int .i64 x.2.2.1, .int .i64 x.2.2.2.1, .string x.2.2.2.2]) (.agg #[.string y.1, .int .i64 y.2.1, .int .i64 y.2.2.1, .int .i64 y.2.2.2.1, .string y.2.2.2.2])).run Tryd.prog w = .ok (.bool (!decide (x = y))) w := by
 rw [run_neq_struct, eqA_Co 9998 w x y]
 have h : (x.1.toList == y.1.toList && (x.2.1 == y.2.1 && (x.2.2.1 == y.2.2.1 && (x.2.2.2.1 == y.2.2.2.1 && (x.2.2.2.2.toList == y.2.2.2.2.toList))))) = decide (x = y) := by
  obtain ⟨a, b, c, e, f⟩ := x; obtain ⟨a', b', c', e', f'⟩ := y; simp only [str_eq]; rw [Bool.eq_iff_iff]
  simp
 rw [h]; rfl
theorem neq_At (x y : At) (w : World) : (binOp .neq 59 (.agg #[.string x.1, .bool x.2.1, .int .i64 x.2.2.1, .string x.2.2.2]) (.agg #[.string y.1, .bool y.2.1, .int .i64 y.2.2.1, .string y.2.2.2])).run Tryd.prog w = .ok (.bool (!decide (x = y))) w := by
 rw [run_neq_struct, eqA_At 9997 w x y]
 have h : (x.1.toList == y.1.toList && ((x.2.1 == y.2.1 && (x.2.2.1 == y.2.2.1 && (x.2.2.2.toList == y.2.2.2.toList))))) = decide (x = y) := by
  obtain ⟨a, b, c, e⟩ := x; obtain ⟨a', b', c', e'⟩ := y; simp only [str_eq]; rw [Bool.eq_iff_iff]
  simp
 rw [h]; rfl
theorem guardCo : Tryd.prog.eqGuardType Tryd.prog.depth 44 = false := by kernel_rfl
theorem guardAt : Tryd.prog.eqGuardType Tryd.prog.depth 59 = false := by kernel_rfl

set_option maxHeartbeats 1600000 in
theorem eqCo_calls (A : Option Addr) (c : Nat) (xs : List Co) (B : Option Addr) (d : Nat) (ys : List Co) (w : World) (hx : Kd.C kCo w A xs.length xs) (hy : Kd.C kCo w B ys.length ys) :
  Calls Tryd.prog 60 #[.slice A xs.length c, .slice B ys.length d] w fun e w' => e = .returned (.bool (decide (xs = ys))) ∧ Drawn0 w w' := by
 have HX := sd hx; have HY := sd hy; have hmx : xs.length ≤ 9223372036854775807 := hx.2.1; clear hx hy
 by_cases hl : xs.length = ys.length
 ·have hlb : ((xs.length : Int) != (ys.length : Int)) = false := by simp [hl]
  have hlb2 : (xs.length == ys.length) = true := by simp [hl]
  have HL := Lib.hid hl; clear hl
  go_enter Tryd.func60, Tryd.ntmps60
  go_wp2
  go_loopw [13] (fun i wr => ∃ k : Nat, k ≤ xs.length ∧ i = .int .i64 k ∧ Aside0 (xs.take k = ys.take k) ∧ Drawn0 w wr) (fun i _ => xs.length - (intOf i).toNat)
  case atStart => exact ⟨0, Nat.zero_le _, rfl, ⟨by simp⟩, Drawn0.refl _⟩
  case round =>
   obtain ⟨k, hk, rfl, HE, ⟨m, rfl⟩⟩ := hrel
   by_cases hlt : k < xs.length
   ·have hlt2 : k < ys.length := by rw [← HL.out]; exact hlt
    obtain ⟨ad, x, rfl, hx, c0, c1, c2, c3, c4⟩ := at_Co HX.out k hlt; obtain ⟨bd, y, rfl, hy, d0, d1, d2, d3, d4⟩ := at_Co HY.out k hlt2; have HEX := Lib.hid (show xs.take (k + 1) = xs.take k ++ [x] by rw [List.take_add_one, hx]; rfl); have HEY := Lib.hid (show ys.take (k + 1) = ys.take k ++ [y] by rw [List.take_add_one, hy]; rfl); clear hx hy; have g0 := guardCo
    by_cases hxy : x = y
    ·subst hxy; have g1 : ∀ W : World, _ := fun W => (neq_Co x x W).trans (by rw [decide_eq_true rfl]; rfl : _ = .ok (.bool false) W)
     go_wp2
     repeat (go_quiet (fail); try go_wp2)
     go_roundw
     case rel => exact ⟨k + 1, by omega, by go_num, ⟨by rw [HEX.out, HEY.out, HE.out]⟩, by repeat (first | exact Drawn0.refl _ | apply Drawn0.step)⟩
     case measure => simp [intOf]; omega
    ·have g1 : ∀ W : World, _ := fun W => (neq_Co x y W).trans (by rw [decide_eq_false hxy]; rfl : _ = .ok (.bool true) W)
     have HN := Lib.hid hxy; clear hxy; go_wp2
     repeat (go_quiet (fail); try go_wp2)
     go_ret; refine ⟨?_, by repeat (first | exact Drawn0.refl _ | apply Drawn0.step)⟩
     have hne : ¬ (xs = ys) := fun he => by
      have h1 := HEX.out; rw [he, HEY.out, ← he, HE.out] at h1; have h2 := List.append_cancel_left h1; exact HN.out (by simpa using h2.symm)
     simp [hne]
   ·obtain rfl : k = xs.length := by omega
    go_wp2; go_ret; refine ⟨?_, by repeat (first | exact Drawn0.refl _ | apply Drawn0.step)⟩; have he := HE.out; rw [List.take_length, HL.out, List.take_length] at he
    simp [he]
 ·have hlb : ((xs.length : Int) != (ys.length : Int)) = true := by simp; omega
  have hlb2 : (xs.length == ys.length) = false := by simpa using hl
  have HL := Lib.hid hl; clear hl
  go_enter Tryd.func60, Tryd.ntmps60
  go_wp2; go_ret; have hne : ¬ (xs = ys) := fun he => HL.out (by rw [he])
  exact ⟨by simp [hne], Drawn0.refl _⟩

set_option maxHeartbeats 1600000 in
theorem eqAt_calls (A : Option Addr) (c : Nat) (xs : List At) (B : Option Addr) (d : Nat) (ys : List At) (w : World) (hx : Kd.C kAt w A xs.length xs) (hy : Kd.C kAt w B ys.length ys) :
  Calls Tryd.prog 61 #[.slice A xs.length c, .slice B ys.length d] w fun e w' => e = .returned (.bool (decide (xs = ys))) ∧ Drawn0 w w' := by
 have HX := sd hx; have HY := sd hy; have hmx : xs.length ≤ 9223372036854775807 := hx.2.1; clear hx hy
 by_cases hl : xs.length = ys.length
 ·have hlb : ((xs.length : Int) != (ys.length : Int)) = false := by simp [hl]
  have hlb2 : (xs.length == ys.length) = true := by simp [hl]
  have HL := Lib.hid hl; clear hl
  go_enter Tryd.func61, Tryd.ntmps61
  go_wp2
  go_loopw [13] (fun i wr => ∃ k : Nat, k ≤ xs.length ∧ i = .int .i64 k ∧ Aside0 (xs.take k = ys.take k) ∧ Drawn0 w wr) (fun i _ => xs.length - (intOf i).toNat)
  case atStart => exact ⟨0, Nat.zero_le _, rfl, ⟨by simp⟩, Drawn0.refl _⟩
  case round =>
   obtain ⟨k, hk, rfl, HE, ⟨m, rfl⟩⟩ := hrel
   by_cases hlt : k < xs.length
   ·have hlt2 : k < ys.length := by rw [← HL.out]; exact hlt
    obtain ⟨ad, x, rfl, hx, c0, c1, c2, c3⟩ := at_At HX.out k hlt; obtain ⟨bd, y, rfl, hy, d0, d1, d2, d3⟩ := at_At HY.out k hlt2; have HEX := Lib.hid (show xs.take (k + 1) = xs.take k ++ [x] by rw [List.take_add_one, hx]; rfl); have HEY := Lib.hid (show ys.take (k + 1) = ys.take k ++ [y] by rw [List.take_add_one, hy]; rfl); clear hx hy; have g0 := guardAt
    by_cases hxy : x = y
    ·subst hxy; have g1 : ∀ W : World, _ := fun W => (neq_At x x W).trans (by rw [decide_eq_true rfl]; rfl : _ = .ok (.bool false) W)
     go_wp2
     repeat (go_quiet (fail); try go_wp2)
     go_roundw
     case rel => exact ⟨k + 1, by omega, by go_num, ⟨by rw [HEX.out, HEY.out, HE.out]⟩, by repeat (first | exact Drawn0.refl _ | apply Drawn0.step)⟩
     case measure => simp [intOf]; omega
    ·have g1 : ∀ W : World, _ := fun W => (neq_At x y W).trans (by rw [decide_eq_false hxy]; rfl : _ = .ok (.bool true) W)
     have HN := Lib.hid hxy; clear hxy; go_wp2
     repeat (go_quiet (fail); try go_wp2)
     go_ret; refine ⟨?_, by repeat (first | exact Drawn0.refl _ | apply Drawn0.step)⟩
     have hne : ¬ (xs = ys) := fun he => by
      have h1 := HEX.out; rw [he, HEY.out, ← he, HE.out] at h1; have h2 := List.append_cancel_left h1; exact HN.out (by simpa using h2.symm)
     simp [hne]
   ·obtain rfl : k = xs.length := by omega
    go_wp2; go_ret; refine ⟨?_, by repeat (first | exact Drawn0.refl _ | apply Drawn0.step)⟩; have he := HE.out; rw [List.take_length, HL.out, List.take_length] at he
    simp [he]
 ·have hlb : ((xs.length : Int) != (ys.length : Int)) = true := by simp; omega
  have hlb2 : (xs.length == ys.length) = false := by simpa using hl
  have HL := Lib.hid hl; clear hl
  go_enter Tryd.func61, Tryd.ntmps61
  go_wp2; go_ret; have hne : ¬ (xs = ys) := fun he => HL.out (by rw [he])
  exact ⟨by simp [hne], Drawn0.refl _⟩

theorem strOfNums_inj {xs ys : List Int} (hx : Byt xs) (hy : Byt ys) (h : strOfNums xs = strOfNums ys) : xs = ys := by
 have h1 : bytesOf (strOfNums xs) = bytesOf (strOfNums ys) := by rw [h]
 have key : ∀ l : List Int, Byt l → bytesOf (strOfNums l) = l := by
  intro l hl; simp only [bytesOf, strOfNums, List.map_map]
  conv => rhs; rw [← List.map_id l]
  apply List.map_congr_left; intro a ha; have hb := hl a ha; simp only [Function.comp, id]; rw [UInt8.toNat_ofNat_of_lt' (show a.toNat < UInt8.size by simp [UInt8.size]; omega)]; omega
 rwa [key xs hx, key ys hy] at h1
set_option maxHeartbeats 1600000 in
theorem eqB_calls (A : Option Addr) (c : Nat) (xs : List Int) (B : Option Addr) (d : Nat) (ys : List Int) (w : World) (hx : Kd.C (Kd.int .u8) w A xs.length xs) (hy : Kd.C (Kd.int .u8) w B ys.length ys) (bx : Byt xs) (by_ : Byt ys) :
  Calls Tryd.prog 62 #[.slice A xs.length c, .slice B ys.length d] w fun e w' => e = .returned (.bool (decide (xs = ys))) ∧ w = w' := by
 have hc1 := Kd.C_string (P := Tryd.prog) (src := 22) (dst := 9) (c := c) Tryd.underlying22 Tryd.underlying5 Tryd.underlying9 hx; have hc2 := Kd.C_string (P := Tryd.prog) (src := 22) (dst := 9) (c := d) Tryd.underlying22 Tryd.underlying5 Tryd.underlying9 hy
 have HE : Hid (((strOfNums xs).toList == (strOfNums ys).toList) = decide (xs = ys)) := Lib.hid (by
  rw [str_eq, decide_eq_decide]; exact ⟨strOfNums_inj bx by_, fun h => by rw [h]⟩)
 clear hx hy bx by_
 go_enter Tryd.func62, Tryd.ntmps62
 go_wp2; go_ret; rw [HE.out]; exact ⟨rfl, rfl⟩
end Go.Proofs.YtbplemhjhpfkgaaDoor.Cd
namespace Go.Proofs.YtbplemhjhpfkgaaDoor.PCodeKinds
open Go.RowKit YtbplemhjhpfkgaaDoorW.PrintWords YtbplemhjhpfkgaaDoorW.PrintLast YtbplemhjhpfkgaaDoorW.PrintMore
attribute [local go_sem] max2_int min2_int max_two min_two max_three min_three max_four min_four   -- for this text's walks alone
def errW : Option Int → Value
 | none => .nilIface
 | some c => .iface 0 (.int .i64 c)
theorem errW_none : errW none = .nilIface := rfl
theorem errW_some (c : Int) : errW (some c) = .iface 0 (.int .i64 c) := rfl

theorem info44 : (Tryd.prog.info? 44).map (fun i => (i.zero, i.size, i.bytes)) = some (some (.agg #[(.string ⟨#[]⟩), (.int .i64 0), (.int .i64 0), (.int .i64 0), (.string ⟨#[]⟩)]), 5, 56) := by kernel_rfl
theorem info59 : (Tryd.prog.info? 59).map (fun i => (i.zero, i.size, i.bytes)) = some (some (.agg #[(.string ⟨#[]⟩), (.bool false), (.int .i64 0), (.string ⟨#[]⟩)]), 4, 48) := by kernel_rfl
structure S44 where
 f0 : ByteArray
 f1 : Int
 f2 : Int
 f3 : Int
 f4 : ByteArray
def k44 : Kd S44 := Kd.iso (Kd.pair Kd.string (Kd.pair (Kd.int .i64) (Kd.pair (Kd.int .i64) (Kd.pair (Kd.int .i64) Kd.string)))) (fun x : S44 => (x.f0, x.f1, x.f2, x.f3, x.f4))
theorem k44_open {w : World} {x : S44} {cs : List Value} (h : k44.K w x cs) : cs = [.string x.f0, .int .i64 x.f1, .int .i64 x.f2, .int .i64 x.f3, .string x.f4] := by
 obtain ⟨_, _, rfl, rfl, ⟨_, _, rfl, rfl, ⟨_, _, rfl, rfl, ⟨_, _, rfl, rfl, rfl⟩⟩⟩⟩ := h; exact rfl
theorem k44_mkM (w : World) (base : Nat) (ok : Nat → Prop) (x : S44)  : k44.M w base ok x [.string x.f0, .int .i64 x.f1, .int .i64 x.f2, .int .i64 x.f3, .string x.f4] := ⟨[.string x.f0], [.int .i64 x.f1, .int .i64 x.f2, .int .i64 x.f3, .string x.f4], rfl, rfl, ⟨[.int .i64 x.f1], [.int .i64 x.f2, .int .i64 x.f3, .string x.f4], rfl, rfl, ⟨[.int .i64 x.f2], [.int .i64 x.f3, .string x.f4], rfl, rfl, ⟨[.int .i64 x.f3], [.string x.f4], rfl, rfl, rfl⟩⟩⟩⟩
structure S57 where
 f0 : Bool
 f1 : Int
 f2 : ByteArray
def k57 : Kd S57 := Kd.iso (Kd.pair Kd.bool (Kd.pair (Kd.int .i64) Kd.string)) (fun x : S57 => (x.f0, x.f1, x.f2))
theorem k57_open {w : World} {x : S57} {cs : List Value} (h : k57.K w x cs) : cs = [.bool x.f0, .int .i64 x.f1, .string x.f2] := by
 obtain ⟨_, _, rfl, rfl, ⟨_, _, rfl, rfl, rfl⟩⟩ := h; exact rfl
theorem k57_mkM (w : World) (base : Nat) (ok : Nat → Prop) (x : S57)  : k57.M w base ok x [.bool x.f0, .int .i64 x.f1, .string x.f2] := ⟨[.bool x.f0], [.int .i64 x.f1, .string x.f2], rfl, rfl, ⟨[.int .i64 x.f1], [.string x.f2], rfl, rfl, rfl⟩⟩
structure S59 where
 f0 : ByteArray
 f1 : S57
def k59 : Kd S59 := Kd.iso (Kd.pair Kd.string k57) (fun x : S59 => (x.f0, x.f1))
theorem k59_open {w : World} {x : S59} {cs : List Value} (h : k59.K w x cs) : cs = [.string x.f0, .bool x.f1.f0, .int .i64 x.f1.f1, .string x.f1.f2] := by
 obtain ⟨_, _, rfl, rfl, s1⟩ := h; obtain rfl := k57_open s1; exact rfl
theorem k59_mkM (w : World) (base : Nat) (ok : Nat → Prop) (x : S59)  : k59.M w base ok x [.string x.f0, .bool x.f1.f0, .int .i64 x.f1.f1, .string x.f1.f2] := ⟨[.string x.f0], [.bool x.f1.f0, .int .i64 x.f1.f1, .string x.f1.f2], rfl, rfl, (k57_mkM w base ok x.f1 )⟩
end Go.Proofs.YtbplemhjhpfkgaaDoor.PCodeKinds
namespace Go.Proofs.YtbplemhjhpfkgaaDoor.Wr
open Go.RowKit YtbplemhjhpfkgaaDoorW.PrintWords YtbplemhjhpfkgaaDoorW.PrintLast YtbplemhjhpfkgaaDoorW.PrintMore Rd
open Go.Proofs.YtbplemhjhpfkgaaDoor.Cd (Co At kCo kAt at_Co at_At nilCo nilAt)
structure MsgD where
 k : Int
 tc : Int
 ts : Int
 ic : Int
 is : Int
 p : List Co
 s : List At
deriving DecidableEq
def letter (s : ByteArray) (i : Nat) : Bool := decide (97 ≤ bt s i ∧ bt s i ≤ 122)
def nameOk (s : ByteArray) : Bool := (List.range s.size).all (letter s) && (!s.toList.isEmpty && decide ((s.size : Int) ≤ 12))
def oneOk (x : Co) : Bool :=
 nameOk x.1 && (if x.2.1 = 1 then decide (x.2.2.1 ≤ x.2.2.2.1) && x.2.2.2.2.toList.isEmpty
  else if x.2.1 = 3 then !decide ((x.2.2.2.2.size : Int) = 12) && (decide (x.2.2.1 = 0) && (decide (x.2.2.2.1 = 0) && decide ((x.2.2.2.2.size : Int) ≤ 12)))
  else if x.2.1 = 2 then decide (x.2.2.1 = 0) && (decide (x.2.2.2.1 = 0) && decide ((x.2.2.2.2.size : Int) ≤ 12))
  else false)
def valOk (t : Bool) (n : Int) (x : ByteArray) : Bool := if t = true then decide (n = 0) && decide ((x.size : Int) ≤ 12) else x.toList.isEmpty
def getC (l : List Co) (i : Nat) : Co := l.getD i (⟨#[]⟩, 0, 0, 0, ⟨#[]⟩)
def getA (l : List At) (i : Nat) : At := l.getD i (⟨#[]⟩, false, 0, ⟨#[]⟩)
def stepC (l : List Co) (i : Nat) : Bool := oneOk (getC l i) && (decide (i = 0) || Op.bytesLess (getC l (i - 1)).1.toList (getC l i).1.toList)
def stepA (l : List At) (i : Nat) : Bool := (nameOk (getA l i).1 && valOk (getA l i).2.1 (getA l i).2.2.1 (getA l i).2.2.2) && (decide (i = 0) || Op.bytesLess (getA l (i - 1)).1.toList (getA l i).1.toList)
def predOk (l : List Co) : Bool := (List.range l.length).all (stepC l) && decide ((l.length : Int) ≤ 5)
def tupOk (l : List At) : Bool := (List.range l.length).all (stepA l) && decide ((l.length : Int) ≤ 5)
def idOk (c s : Int) : Bool := decide (0 ≤ c) && (decide (c < 32) && decide (0 ≤ s))
def kindOk (k : Int) : Bool := decide (1 ≤ k ∧ k ≤ 5)
def asksI (k : Int) : Bool := decide (3 ≤ k ∧ k ≤ 5)
def asksP (k : Int) : Bool := decide (k = 1 ∨ k = 3)
def asksS (k : Int) : Bool := decide (k = 5)
def rightM (m : MsgD) : Bool :=
 kindOk m.k && (idOk m.tc m.ts && (predOk m.p && (tupOk m.s && ((asksI m.k || (decide (m.ic = 0) && decide (m.is = 0))) && ((asksP m.k || decide (m.p = [])) && ((asksS m.k || decide (m.s = [])) && idOk m.ic m.is))))))
theorem range_snoc {f : Nat → Bool} {j : Nat} (h : (List.range j).all f = true) (hj : f j = true) : (List.range (j + 1)).all f = true := by
 rw [List.range_succ, List.all_append, h]
 simp [hj]
theorem getC_of {l : List Co} {i : Nat} {x : Co} (h : l[i]? = some x) : getC l i = x := by
 unfold getC; rw [List.getD_eq_getElem?_getD, h]; rfl
theorem getA_of {l : List At} {i : Nat} {x : At} (h : l[i]? = some x) : getA l i = x := by
 unfold getA; rw [List.getD_eq_getElem?_getD, h]; rfl
def Sm (s : ByteArray) : Prop := s.size ≤ 9223372036854775807
abbrev mW (m : MsgD) (A5 : Option Addr) (m5 : Nat) (A6 : Option Addr) (m6 : Nat) : Value :=
 .agg #[.int .i64 m.k, .int .i64 m.tc, .int .i64 m.ts, .int .i64 m.ic, .int .i64 m.is, .slice A5 m.p.length m5, .slice A6 m.s.length m6]
structure LiesM (w : World) (m : MsgD) (A5 A6 : Option Addr) : Prop where
 p : Kd.C kCo w A5 m.p.length m.p
 s : Kd.C kAt w A6 m.s.length m.s
theorem LiesM.below {w w' : World} {m : MsgD} {A5 A6 : Option Addr} (h : LiesM w m A5 A6) (hb : Below w.heap.size w w') : LiesM w' m A5 A6 :=
 ⟨Kd.C_below h.p hb, Kd.C_below h.s hb⟩
structure SmM (m : MsgD) : Prop where
 p : ∀ x ∈ m.p, Sm x.1
 s : ∀ x ∈ m.s, Sm x.1
end Go.Proofs.YtbplemhjhpfkgaaDoor.Wr
namespace Go.Proofs.YtbplemhjhpfkgaaDoor.Wr
open Go.RowKit YtbplemhjhpfkgaaDoorW.PrintWords YtbplemhjhpfkgaaDoorW.PrintLast YtbplemhjhpfkgaaDoorW.PrintMore Rd
open Go.Proofs.YtbplemhjhpfkgaaDoor.Cd (Co At kCo kAt at_Co at_At nilCo nilAt)
theorem R_ne {α : Type} {d : Kd α} {T t : TypeId} {w : World} {base g : Nat} {v : Value} {xs : List α} {cells : Array Value} (h : Kd.R d T w base (fun _ => True) v xs) (hb : w.heap[g]? = some (.cells cells t (0, 0))) (ht : T ≠ t) : some g ≠ v.ownBlock := by
 obtain ⟨_, inner, ho, _⟩ := h; exact own_ne ho hb ht
theorem blk_grown {w w1 : World} {g : Nat} {row : Option Nat} {o : Obj} (h : w.heap[g]? = some o) (hg : w.grownBy w1 row) (hne : some g ≠ row) : w1.heap[g]? = some o := (hg.block g (blk_lt h) hne).trans h
def Past (n : Nat) (A : Option Addr) : Prop := ∀ ad, A = some ad → n ≤ ad.block
theorem Past.none (n : Nat) : Past n none := fun _ e => by cases e
theorem Past.le {n m : Nat} {A : Option Addr} (h : Past n A) (hm : m ≤ n) : Past m A := fun ad e => Nat.le_trans hm (h ad e)
theorem past_of {α : Type} {d : Kd α} {T : TypeId} {w : World} {base n c : Nat} {A : Option Addr} {xs : List α} (h : Kd.R d T w base (fun _ => True) (.slice A n c) xs) : Past base A := by
 rintro ad rfl; exact Kd.R_base h _ rfl
theorem C_keepF {α : Type} {d : Kd α} (hK : ∀ W W' x cs, d.K W x cs → d.K W' x cs) {w w1 : World} {A : Option Addr} {n g : Nat} {xs : List α} (h : Kd.C d w A n xs) (hk : KeepBut w w1 g none) (hf : ∀ ad, A = some ad → ad.block ≠ g) : Kd.C d w1 A n xs :=
 ⟨h.1, h.2.1, fun hn => by
  obtain ⟨ad, e, hc⟩ := h.2.2 hn; refine ⟨ad, e, fun i x hx => ?_⟩; obtain ⟨cs, hl, hK', hcell⟩ := hc i x hx; exact ⟨cs, hl, hK _ _ _ _ hK', fun j u hu => keep_cell hk (hcell j u hu) (by rw [add_block]; exact hf ad e)⟩⟩
theorem LiesM.keep {w w1 : World} {m : MsgD} {A5 A6 : Option Addr} {g n : Nat} (h : LiesM w m A5 A6) (hk : KeepBut w w1 g none) (h5 : Past n A5) (h6 : Past n A6) (hg : g < n) : LiesM w1 m A5 A6 :=
 ⟨C_keepF (fun _ _ _ _ h => h) h.p hk (fun ad e => by have := h5 ad e; omega), C_keepF (fun _ _ _ _ h => h) h.s hk (fun ad e => by have := h6 ad e; omega)⟩
end Go.Proofs.YtbplemhjhpfkgaaDoor.Wr


namespace Go.Proofs.YtbplemhjhpfkgaaDoor.Wr
open Go.RowKit YtbplemhjhpfkgaaDoorW.PrintWords YtbplemhjhpfkgaaDoorW.PrintLast YtbplemhjhpfkgaaDoorW.PrintMore Rd
open Go.Proofs.YtbplemhjhpfkgaaDoor.Cd (Co At kCo kAt at_Co at_At nilCo nilAt flat flatKM)
def rwpReg.T9 : Bool × List (List Nat × List Nat) := (true, [([], []), ([0], [0]), ([], []), ([2], [2]), ([3], [3]), ([1, 4, 3], [1, 4]), ([0, 1, 2, 3, 4, 5], []), ([6, 5, 5, 0, 1, 2, 3, 4, 5], [5, 6])])
def rwpReg.B9 : List Nat := [0, 1, 0, 4, 12, 31, 63, 127]
theorem rwpReg.tab9 : rtab .any (opsOf Tryd.f70 9) = rwpReg.T9 := by kernel_rfl
theorem rwpReg.bits9 : waitsOk rwpReg.T9.2 rwpReg.B9 = true := by kernel_rfl
def rwsReg.T14 : Bool × List (List Nat × List Nat) := (true, [([], []), ([0], [0]), ([], []), ([2], [2]), ([3], [3]), ([1, 4, 3], [1, 4]), ([0, 1, 2, 3, 4, 5], []), ([6, 5, 5, 0, 1, 2, 3, 4, 5], [5, 6])])
def rwsReg.B14 : List Nat := [0, 1, 0, 4, 12, 31, 63, 127]
theorem rwsReg.tab14 : rtab .any (opsOf Tryd.f70 14) = rwsReg.T14 := by kernel_rfl
theorem rwsReg.bits14 : waitsOk rwsReg.T14.2 rwsReg.B14 = true := by kernel_rfl
end Go.Proofs.YtbplemhjhpfkgaaDoor.Wr
namespace Go.Proofs.YtbplemhjhpfkgaaDoor.Wr
open Go.RowKit YtbplemhjhpfkgaaDoorW.PrintWords YtbplemhjhpfkgaaDoorW.PrintLast YtbplemhjhpfkgaaDoorW.PrintMore Rd
open Go.Proofs.YtbplemhjhpfkgaaDoor.Cd (Co At kCo kAt at_Co at_At nilCo nilAt C_blk64 text8_le)
def cW (x : Co) : List Int := text8 x.1 ++ [x.2.1 % 256] ++ (if x.2.1 = 1 then be8s [x.2.2.1, x.2.2.2.1] else text8 x.2.2.2.2)
def wcReg.T1 : Bool × List (List Nat × List Nat) := (true, [([], []), ([0], [0]), ([1], [1]), ([], []), ([3], [3]), ([4], [4]), ([5], [5]), ([2, 6, 2], [2, 6]), ([7, 7, 0, 1, 2, 3, 4, 5, 6, 7], [7])])
def wcReg.B1 : List Nat := [0, 1, 3, 0, 8, 24, 56, 127, 255]
theorem wcReg.tab1 : rtab .any (opsOf Tryd.f85 1) = wcReg.T1 := by kernel_rfl
theorem wcReg.bits1 : waitsOk wcReg.T1.2 wcReg.B1 = true := by kernel_rfl
end Go.Proofs.YtbplemhjhpfkgaaDoor.Wr
namespace Go.Proofs.YtbplemhjhpfkgaaDoor.Wr
open Go.RowKit YtbplemhjhpfkgaaDoorW.PrintWords YtbplemhjhpfkgaaDoorW.PrintLast YtbplemhjhpfkgaaDoorW.PrintMore Rd
open Go.Proofs.YtbplemhjhpfkgaaDoor.Cd (Co At kCo kAt at_Co at_At nilCo nilAt C_blk64 text8_le)
def aW (x : At) : List Int := text8 x.1 ++ (if x.2.1 = true then [1] ++ text8 x.2.2.2 else [0] ++ be8s [x.2.2.1])
def wa3Reg.T3 : Bool × List (List Nat × List Nat) := (true, [([], []), ([], []), ([0, 1], [0, 1]), ([], []), ([3], [3]), ([4], [4]), ([5, 2], [5]), ([2, 6, 6], [2, 6]), ([7, 7, 0, 1, 2, 3, 4, 5, 6, 7], [7])])
def wa3Reg.B3 : List Nat := [0, 0, 3, 0, 8, 24, 63, 127, 255]
theorem wa3Reg.tab3 : rtab .any (opsOf Tryd.f86 3) = wa3Reg.T3 := by kernel_rfl
theorem wa3Reg.bits3 : waitsOk wa3Reg.T3.2 wa3Reg.B3 = true := by kernel_rfl
end Go.Proofs.YtbplemhjhpfkgaaDoor.Wr


namespace Go.Proofs.YtbplemhjhpfkgaaDoor.Wr
open Go.RowKit YtbplemhjhpfkgaaDoorW.PrintWords YtbplemhjhpfkgaaDoorW.PrintLast YtbplemhjhpfkgaaDoorW.PrintMore Rd
open Go.Proofs.YtbplemhjhpfkgaaDoor.Cd (Co At kCo kAt at_Co at_At nilCo nilAt)
theorem eqA_ID (d : Nat) (w : World) (x0 y0 : Int) (x1 y1 : Int) :
  (Op.equalIn (d + 2) 48 (.agg #[.int .i64 x0, .int .i64 x1]) (.agg #[.int .i64 y0, .int .i64 y1])).run Tryd.prog w = .ok (x0 == y0 && (x1 == y1)) w := by
 refine eqA_of Tryd.underlying48 (by kernel_rfl) ?_; refine eqf_cons (by rfl) (by go_simp; rfl) (by go_simp; rfl) (by go_simp) ?_; exact eqf_last (by rfl) (by go_simp; rfl) (by go_simp; rfl) (by go_simp)
attribute [local go_sem high] eqA_ID
end Go.Proofs.YtbplemhjhpfkgaaDoor.Wr
namespace Go.Proofs.YtbplemhjhpfkgaaDoor.Wr
open Go.RowKit YtbplemhjhpfkgaaDoorW.PrintWords YtbplemhjhpfkgaaDoorW.PrintLast YtbplemhjhpfkgaaDoorW.PrintMore Rd
open Go.Proofs.YtbplemhjhpfkgaaDoor.Cd (Co At kCo kAt at_Co at_At nilCo nilAt C_blk64 text8_le flatMap_le take_snocF)
theorem cW_le (x : Co) : (cW x).length ≤ 540 := by
 have h1 := text8_le x.1; have h2 := text8_le x.2.2.2.2; unfold cW
 split
 ·simp only [List.length_append, List.length_cons, List.length_nil, be8s_len]; omega
 ·simp only [List.length_append, List.length_cons, List.length_nil]; omega
theorem aW_le (x : At) : (aW x).length ≤ 540 := by
 have h1 := text8_le x.1; have h2 := text8_le x.2.2.2; unfold aW
 split
 ·simp only [List.length_append, List.length_cons, List.length_nil]; omega
 ·simp only [List.length_append, List.length_cons, List.length_nil, be8s_len]; omega
def iB (k ic is : Int) : List Int := if asksI k = true then be8s [ic, is] else []
def pB (k : Int) (p : List Co) : List Int := if asksP k = true then [(p.length : Int) % 256] ++ p.flatMap cW else []
def sB (k : Int) (s : List At) : List Int := if asksS k = true then [(s.length : Int) % 256] ++ s.flatMap aW else []
def msgB (m : MsgD) : List Int := [m.k % 256] ++ be8s [m.tc, m.ts] ++ iB m.k m.ic m.is ++ pB m.k m.p ++ sB m.k m.s
theorem iB_le (k ic is : Int) : (iB k ic is).length ≤ 16 := by
 unfold iB
 split
 ·simp [be8s_len]
 ·simp
theorem pB_le (k : Int) (p : List Co) : (pB k p).length ≤ 540 * p.length + 1 := by
 unfold pB
 split
 ·have h1 := flatMap_le cW 540 cW_le p; rw [List.length_append, List.length_singleton]; omega
 ·simp
theorem sB_le (k : Int) (s : List At) : (sB k s).length ≤ 540 * s.length + 1 := by
 unfold sB
 split
 ·have h1 := flatMap_le aW 540 aW_le s; rw [List.length_append, List.length_singleton]; omega
 ·simp
def wpmReg.T2 : Bool × List (List Nat × List Nat) := (true, [([], []), ([0], [0]), ([1], [1]), ([2], [2]), ([], []), ([4], [4]), ([5], [5]), ([3, 6, 6], [3, 6]), ([7, 7, 0, 1, 2, 3, 4, 5, 6, 7], [7])])
def wpmReg.B2 : List Nat := [0, 1, 3, 7, 0, 16, 48, 127, 255]
theorem wpmReg.tab2 : rtab .any (opsOf Tryd.f54 2) = wpmReg.T2 := by kernel_rfl
theorem wpmReg.bits2 : waitsOk wpmReg.T2.2 wpmReg.B2 = true := by kernel_rfl
end Go.Proofs.YtbplemhjhpfkgaaDoor.Wr

namespace Go.Proofs.YtbplemhjhpfkgaaDoor.Wr
open Go.RowKit YtbplemhjhpfkgaaDoorW.PrintWords YtbplemhjhpfkgaaDoorW.PrintLast YtbplemhjhpfkgaaDoorW.PrintMore Rd
open Go.Proofs.YtbplemhjhpfkgaaDoor.Cd (Co At kCo kAt at_Co at_At nilCo nilAt eqB_calls)
open Go.Proofs.YtbplemhjhpfkgaaDoor.Ft (Door Chain new_chain kind_calls chain_iface)
theorem bytesOf_by (s : ByteArray) : Byt (bytesOf s) := by
 intro x hx; obtain ⟨b, _, rfl⟩ := List.mem_map.1 hx; have := b.toNat_lt; omega
theorem byt_app {xs ys : List Int} (h : Byt xs) (k : Byt ys) : Byt (xs ++ ys) := fun x hx => (List.mem_append.1 hx).elim (h x) (k x)
theorem byt_nil : Byt [] := fun x hx => by cases hx
theorem byt_one (k : Int) : Byt [k % 256] := fun x hx => by obtain rfl := List.mem_singleton.1 hx; omega
theorem byt_be8s (xs : List Int) : Byt (be8s xs) := by
 intro x hx; obtain ⟨y, _, hy⟩ := List.mem_flatMap.1 hx; simp only [be8, byteAt, List.mem_cons, List.not_mem_nil, or_false] at hy; rcases hy with rfl | rfl | rfl | rfl | rfl | rfl | rfl | rfl <;> constructor <;> omega
theorem byt_text8 (s : ByteArray) : Byt (text8 s) := by
 unfold text8
 split
 ·exact byt_nil
 ·intro x hx; rcases List.mem_cons.1 hx with rfl | hx
  ·constructor <;> omega
  ·exact bytesOf_by s x hx
theorem byt_flatMap {α : Type} (f : α → List Int) (h : ∀ x, Byt (f x)) (l : List α) : Byt (l.flatMap f) := by
 intro x hx; obtain ⟨y, _, hy⟩ := List.mem_flatMap.1 hx; exact h y x hy
theorem byt_cW (x : Co) : Byt (cW x) := by
 unfold cW
 split
 ·exact byt_app (byt_app (byt_text8 _) (byt_one _)) (byt_be8s _)
 ·exact byt_app (byt_app (byt_text8 _) (byt_one _)) (byt_text8 _)
theorem byt_aW (x : At) : Byt (aW x) := by
 unfold aW
 split
 ·exact byt_app (byt_text8 _) (byt_app (byt_one 1) (byt_text8 _))
 ·exact byt_app (byt_text8 _) (byt_app (byt_one 0) (byt_be8s _))
theorem byt_msgB (m : MsgD) : Byt (msgB m) := by
 unfold msgB iB pB sB; refine byt_app (byt_app (byt_app (byt_app (byt_one _) (byt_be8s _)) ?_) ?_) ?_
 ·split
  ·exact byt_be8s _
  ·exact byt_nil
 ·split
  ·exact byt_app (byt_one _) (byt_flatMap _ byt_cW _)
  ·exact byt_nil
 ·split
  ·exact byt_app (byt_one _) (byt_flatMap _ byt_aW _)
  ·exact byt_nil
end Go.Proofs.YtbplemhjhpfkgaaDoor.Wr
namespace Go.Proofs.YtbplemhjhpfkgaaDoor.Wr
open Go.RowKit YtbplemhjhpfkgaaDoorW.PrintWords YtbplemhjhpfkgaaDoorW.PrintLast YtbplemhjhpfkgaaDoorW.PrintMore Rd
open Cd
attribute [local go_sem high] eqA_ID
end Go.Proofs.YtbplemhjhpfkgaaDoor.Wr



namespace Go.Proofs.YtbplemhjhpfkgaaDoor.Wr
open Go.RowKit YtbplemhjhpfkgaaDoorW.PrintWords YtbplemhjhpfkgaaDoorW.PrintLast YtbplemhjhpfkgaaDoorW.PrintMore Rd
open Go.Proofs.YtbplemhjhpfkgaaDoor.Cd (Co At kCo kAt at_Co at_At nilCo nilAt)
attribute [local go_sem high] eqA_ID
end Go.Proofs.YtbplemhjhpfkgaaDoor.Wr
namespace Go.Proofs.YtbplemhjhpfkgaaDoor.Wr
open Go.RowKit YtbplemhjhpfkgaaDoorW.PrintWords YtbplemhjhpfkgaaDoorW.PrintLast YtbplemhjhpfkgaaDoorW.PrintMore Rd
open Go.Proofs.YtbplemhjhpfkgaaDoor.Ft (Door Chain new_chain kind_calls chain_iface)
def wpReg.T2 : Bool × List (List Nat × List Nat) := (true, [([], []), ([0], [0]), ([1], [1]), ([2], [2]), ([], []), ([4], [4]), ([5], [5]), ([3, 6, 6], [3, 6]), ([7, 7, 0, 1, 2, 3, 4, 5, 6, 7], [7])])
def wpReg.B2 : List Nat := [0, 1, 3, 7, 0, 16, 48, 127, 255]
theorem wpReg.tab2 : rtab .any (opsOf Tryd.f54 2) = wpReg.T2 := by kernel_rfl
theorem wpReg.bits2 : waitsOk wpReg.T2.2 wpReg.B2 = true := by kernel_rfl

abbrev m2 : Array Value := #[.int .i64 2, .int .i64 1, .int .i64 2, .int .i64 0, .int .i64 0, .slice none 0 0, .slice none 0 0]
end Go.Proofs.YtbplemhjhpfkgaaDoor.Wr
namespace Go.Proofs.YtbplemhjhpfkgaaDoor.Wr
open Go.RowKit YtbplemhjhpfkgaaDoorW.PrintWords YtbplemhjhpfkgaaDoorW.PrintLast YtbplemhjhpfkgaaDoorW.PrintMore Rd
open Go.Proofs.YtbplemhjhpfkgaaDoor.Cd (Co At kCo kAt at_Co at_At nilCo nilAt C_blk64 text8_le)
theorem byte_u64 (n : Int) (j : Nat) (h : j < 8) : byteAt n j = IntKind.u64.wrap n / 2 ^ (56 - 8 * j) % 256 := by
 have h8 : j = 0 ∨ j = 1 ∨ j = 2 ∨ j = 3 ∨ j = 4 ∨ j = 5 ∨ j = 6 ∨ j = 7 := by omega
 have hw : IntKind.u64.wrap n = n % 18446744073709551616 := by simp [IntKind.wrap, IntKind.signed, IntKind.bits]
 unfold byteAt; rw [hw]; rcases h8 with rfl | rfl | rfl | rfl | rfl | rfl | rfl | rfl <;> simp only [Nat.reduceSub, Nat.reduceMul, Nat.reducePow, Int.reducePow] <;> omega
set_option maxRecDepth 100000 in
set_option maxHeartbeats 1600000 in
theorem rnumber_calls (n : Int) (w : World) :
  Calls Tryd.prog 76 #[.int .i64 n] w fun e w' => ∃ v, e = .returned v ∧ Kd.R (Kd.int .u8) 5 w' w.heap.size (fun _ => True) v (be8 n) ∧ Below w.heap.size w w' := by
 go_enter Tryd.func76, Tryd.ntmps76
 go_wp2
 go_loopw [3, 4] (fun v i w2 => ∃ j : Nat, j ≤ 8 ∧ i = .int .i64 (56 - 8 * (j : Int)) ∧ Aside0 (Kd.R (Kd.int .u8) 5 w2 w.heap.size (fun _ => True) v ((be8 n).take j)) ∧ Aside0 (Below w.heap.size w w2)) (fun _ i _ => (intOf i + 8).toNat)
 case atStart => exact ⟨0, by omega, rfl, ⟨Kd.R_nil _ _ _ _ _⟩, ⟨Below.refl _ _⟩⟩
 case round =>
  obtain ⟨j, hj, rfl, HO2, HB2⟩ := hrel
  by_cases hj8 : j < 8
  ·have HL := Lib.hid (show ((be8 n).take j).length + 1 ≤ 140737488355328 by rw [List.length_take, be8_len]; omega); have HN := Lib.hid (show (be8 n).take (j + 1) = (be8 n).take j ++ [IntKind.u64.wrap n / 2 ^ (56 - 8 * j) % 256] by rw [be8_take _ _ hj8, byte_u64 n j hj8]); go_wp2_with (first | ((with_reducible refine gate_builtin (b := .append) (xs := #[.tmp 9, .tmp 16]) rfl ?_); at_builtin; refine Kd.R_append (Kd.int .u8) (w0 := w) (w.heap.size) rfl (.tmp 9) (.tmp 16) 22 5 (.int .u8 0) 1 rfl Tryd.underlying22 infoU8 rfl (by decide) (by omega) (u3) ((be8 n).take j) (IntKind.u64.wrap n / 2 ^ (56 - 8 * j) % 256) [.int .u8 (IntKind.u64.wrap n / 2 ^ (56 - 8 * j) % 256)] (fun _ => True) (fun _ => False) rfl rfl ?aP (fun _ hk => hk.elim) ?aF ?aO ?aB ?aS ?aL ?_; (case aP => exact rfl); (case aB => exact (by repeat (with_reducible first | exact HB2.out | apply below_alloc | apply pw_below_drewN | apply below_drew1))); (case aF => exact (fun _ _ => trivial)); (case aO => exact (by (with_reducible repeat (first | apply Kd.R_alloc | apply Kd.R_drewN | apply Kd.R_drew)); exact HO2.out)); (case aS => exact (below_size (by repeat (with_reducible first | exact HB2.out | apply below_alloc | apply pw_below_drewN | apply below_drew1)))); (case aL => have := HL.out; omega); intro v1 w1 ho hb hg hat; have HO3 := sd ho; have HB3 := sd hb; clear ho hb hg hat))
   go_roundw
   case rel => exact ⟨j + 1, by omega, by go_num, ⟨by rw [HN.out]; exact HO3.out⟩, HB3⟩
   case measure => simp [intOf]; omega
  ·obtain rfl : j = 8 := by omega
   have HO1 : Aside0 (Kd.R (Kd.int .u8) 5 wr w.heap.size (fun _ => True) u3 (be8 n)) := HO2; go_wp2; go_ret; exact ⟨_, rfl, HO1.out, HB2.out⟩
set_option maxHeartbeats 800000 in
theorem rtext_calls (s : ByteArray) (hs : s.size ≤ 255) (w : World) :
  Calls Tryd.prog 75 #[.string s] w fun e w' => ∃ v, e = .returned v ∧ Kd.R (Kd.int .u8) 5 w' w.heap.size (fun _ => True) v (text8 s) ∧ Below w.heap.size w w' := by
 have HE : Hid (text8 s = [(s.size : Int)] ++ bytesOf s) := Lib.hid (by unfold text8; rw [if_neg (by omega)]; rfl)
 go_enter Tryd.func75, Tryd.ntmps75
 go_wp2_with (first | (at_builtin; refine print_append_str (w0 := w) w.heap.size rfl (.tmp 6) _ 22 9 5 rfl Tryd.underlying22 Tryd.underlying9 infoU8 (.slice (some ⟨w.heap.size, 0, none⟩) 1 1) [(s.size : Int)] s rfl rfl ?aO ?aB ?aS ?aL ?_; (case aO => exact own_one w _); (case aB => exact below_alloc (Below.refl _ _) _); (case aS => simp); (case aL => simp; omega); intro v1 w1 ho hb hg; have HO := sd ho; have HB := sd hb; clear ho hb hg)); go_ret; rw [HE.out]; exact ⟨_, rfl, Kd.R_of_own HO.out (fun _ _ => trivial), HB.out⟩
def ridReg.T1 : Bool × List (List Nat × List Nat) := (true, [([], []), ([0], [0]), ([1], [1]), ([], []), ([3], [3]), ([4, 2], [4]), ([2, 5, 5], [2, 5]), ([6, 6, 0, 1, 2, 3, 4, 5, 6], [6])])
def ridReg.B1 : List Nat := [0, 1, 3, 0, 8, 31, 63, 127]
theorem ridReg.tab1 : rtab .any (opsOf Tryd.f74 1) = ridReg.T1 := by kernel_rfl
theorem ridReg.bits1 : waitsOk ridReg.T1.2 ridReg.B1 = true := by kernel_rfl
set_option maxRecDepth 100000 in
set_option maxHeartbeats 1600000 in
theorem refid_calls (ka kb : Int) (w : World) : Calls Tryd.prog 74 #[.agg #[.int .i64 ka, .int .i64 kb]] w fun e w' => ∃ v, e = .returned v ∧ Kd.R (Kd.int .u8) 5 w' w.heap.size (fun _ => True) v (be8s [ka, kb]) ∧ Below w.heap.size w w' := by
 have HX := sd (blk_new w (.cells #[.int .i64 ka, .int .i64 kb] 48)); have HB := sd (below_alloc (Below.refl w.heap.size w) (.cells #[.int .i64 ka, .int .i64 kb] 48)); have HE : Hid (be8s [ka, kb] = be8 ka ++ be8 kb) := Lib.hid (by simp [be8s])
 go_enter Tryd.func74, Tryd.ntmps74
 go_upto_region 1 with fail
 generalize (w.alloc (.cells #[.int .i64 ka, .int .i64 kb] 48)) = wd at *; have HW := sd (Below.refl wd.heap.size wd); refine start_ (n := 8) (S := fun w' => True) (ds := []) #[false, false, false, false, false, false, false, false] (by kernel_rfl) rfl rfl trivial (fun hHeld => ?_); refine with_tabW ridReg.tab1 ridReg.bits1 (fun HT_ HW_ => ?_); refine pure_ (i := 0) (N := some 3) (v := ?_) (a' := ?_) #[true, false, false, false, false, false, false, false] rfl rfl (any_of HT_.out (by kernel_rfl)) (fun _ _ _ h => h) (Or.inl ⟨by rfl, ?_⟩) ?_ ?_
 rotate_left
 ·intro w'; go_simp
  with_reducible rfl
 rotate_left
 ·simp only [Act.put, List.setIfInBounds_toArray, List.set_cons_zero, List.set_cons_succ, i64_w, i32_w]; rfl
 refine pure_ (i := 3) (N := some 6) (v := ?_) (a' := ?_) #[true, false, false, true, false, false, false, false] rfl rfl (any_of HT_.out (by kernel_rfl)) (fun _ _ _ h => h) (Or.inl ⟨by rfl, ?_⟩) ?_ ?_
 rotate_left
 ·intro w'; go_simp
  with_reducible rfl
 rotate_left
 ·simp only [Act.put, List.setIfInBounds_toArray, List.set_cons_zero, List.set_cons_succ, i64_w, i32_w]; rfl
 refine inv_at [1, 2, 4, 5, 6, 7] (fun a0_ b a w' => ∃ (s2_ : Value) (s5_ : Value) (s6_ : Value) (m7_ : Value), a = putSel a0_ b [(1, 4, .int .i64 ka), (2, 5, s2_), (4, 7, .int .i64 kb), (5, 8, s5_), (6, 9, s6_), (7, 2, m7_)] ∧ (Below wd.heap.size wd w') ∧ (b 2 = true → b 6 = false → Kd.R (Kd.int .u8) 5 w' wd.heap.size (fun _ => True) (s2_) (be8 ka)) ∧ (b 5 = true → b 6 = false → Kd.R (Kd.int .u8) 5 w' wd.heap.size (fun _ => True) (s5_) (be8 kb)) ∧ (b 6 = true → Kd.R (Kd.int .u8) 5 w' wd.heap.size (fun _ => True) (s6_) (be8 ka ++ be8 kb)) ∧ (b 7 = true → (m7_ : Value) = s6_)) HT_.out HW_.out (by kernel_rfl) (by kernel_rfl) ?_ ?_ ?_
 ·exact ⟨.bool false, .bool false, .bool false, .bool false, by simp only [putSel, Bool.false_eq_true, if_false], below_drew HW.out, fun h_ => absurd h_ (by decide), fun h_ => absurd h_ (by decide), fun h_ => absurd h_ (by decide), fun h_ => absurd h_ (by decide)⟩
 ·skip
  clear HW; refine steps_cons ?_ ?_
  ·rintro b a w' ⟨s2_, s5_, s6_, m7_, ha, QHW, QH2, QH5, QH6, QX7_⟩ hb_ hon hoff; refine ⟨_, rfl, fun K hK => ?_⟩; have e3 := ef ha 3 (.pointer (some ⟨w.heap.size, 0, none⟩)); replace ha := sd ha; have HW := sd QHW; have q0 := (cells_at HW.out (blk_cell HX.out 0)).trans (rfl : _ = some (Value.int .i64 ka)); refine value_ (w1 := w') (v := .int .i64 ka) (by rfl) rfl ?_ ?_
   ·go_simp; (try simp only [i64_w]); try rfl
   refine hK.out _ _ ⟨s2_, s5_, s6_, m7_, uk ha.out 0 hb_ rfl rfl rfl, QHW, fun h0_ _ => aF hoff 2 h0_, fun h0_ _ => aF hoff 5 h0_, fun h0_ => aF hoff 6 h0_, fun h0_ => aF hoff 7 h0_⟩
  refine steps_cons ?_ ?_
  ·rintro b a w' ⟨s2_, s5_, s6_, m7_, ha, QHW, QH2, QH5, QH6, QX7_⟩ hb_ hon hoff; refine ⟨_, rfl, fun K hK => ?_⟩; have e4 := ek ha 0 1 4 (.int .i64 ka) hon; replace ha := sd ha; have HW := sd QHW; refine goes_ Tryd.func76 (by kernel_rfl) rfl #[.int .i64 ka] (by rfl) rfl rfl (ev1 e4) ?_; refine (rnumber_calls ka w').mono ?_; rintro e w2 ⟨v2, rfl, hR, hB⟩; refine ⟨_, rfl, ?_⟩; refine hK.out _ _ ⟨v2, s5_, s6_, m7_, uk ha.out 1 hb_ rfl rfl rfl, below_step HW.out hB, fun _ _ => Kd.R_lower hR HW.out.size, fun h0_ _ => aF hoff 5 h0_, fun h0_ => aF hoff 6 h0_, fun h0_ => aF hoff 7 h0_⟩
  refine steps_cons ?_ ?_
  ·rintro b a w' ⟨s2_, s5_, s6_, m7_, ha, QHW, QH2, QH5, QH6, QX7_⟩ hb_ hon hoff; refine ⟨_, rfl, fun K hK => ?_⟩; have e6 := ef ha 6 (.pointer (some ⟨w.heap.size, 1, none⟩)); replace ha := sd ha; have HW := sd QHW; have q1 := (cells_at HW.out (blk_cell HX.out 1)).trans (rfl : _ = some (Value.int .i64 kb)); refine value_ (w1 := w') (v := .int .i64 kb) (by rfl) rfl ?_ ?_
   ·go_simp; (try simp only [i64_w]); try rfl
   refine hK.out _ _ ⟨s2_, s5_, s6_, m7_, uk ha.out 2 hb_ rfl rfl rfl, QHW, QH2, fun h0_ _ => aF hoff 5 h0_, fun h0_ => aF hoff 6 h0_, fun h0_ => aF hoff 7 h0_⟩
  refine steps_cons ?_ ?_
  ·rintro b a w' ⟨s2_, s5_, s6_, m7_, ha, QHW, QH2, QH5, QH6, QX7_⟩ hb_ hon hoff; refine ⟨_, rfl, fun K hK => ?_⟩; have e7 := ek ha 2 4 7 (.int .i64 kb) hon; replace ha := sd ha; have HW := sd QHW; have H2 := sd (QH2 (aC hon 2) (aC hoff 6)); refine goes_ Tryd.func76 (by kernel_rfl) rfl #[.int .i64 kb] (by rfl) rfl rfl (ev1 e7) ?_; refine (rnumber_calls kb w').mono ?_; rintro e w2 ⟨v2, rfl, hR, hB⟩; refine ⟨_, rfl, ?_⟩; refine hK.out _ _ ⟨s2_, v2, s6_, m7_, uk ha.out 3 hb_ rfl rfl rfl, below_step HW.out hB, fun _ _ => Kd.R_below H2.out hB, fun _ _ => Kd.R_lower hR HW.out.size, fun h0_ => aF hoff 6 h0_, fun h0_ => aF hoff 7 h0_⟩
  refine steps_cons ?_ ?_
  ·rintro b a w' ⟨s2_, s5_, s6_, m7_, ha, QHW, QH2, QH5, QH6, QX7_⟩ hb_ hon hoff; refine ⟨_, rfl, fun K hK => ?_⟩; have e5 := ek ha 1 2 5 (s2_) hon; have e8 := ek ha 3 5 8 (s5_) hon; replace ha := sd ha; have HW := sd QHW; have H2 := sd (QH2 (aC hon 2) hb_); have H5 := sd (QH5 (aC hon 5) hb_); obtain ⟨aR, cR, hs, hcR, hCR⟩ := Kd.R_reads H5.out; rw [hs] at e8; refine cat_step_at (Kd.int .u8) intKM wd w' wd.heap.size (by rfl) (.tmp 5) (.tmp 8) 22 5 (.int .u8 0) 1 rfl Tryd.underlying22 infoU8 rfl (by decide) (by omega) s2_ (be8 ka) (be8 kb) (aR) ((be8 kb).length) (cR) (eval_of e5) (eval_of e8) H2.out hCR HW.out HW.out.size (by simp only [be8_len]; omega) ?_; intro v1 w1 ho hb hg hat; refine hK.out _ _ ⟨s2_, s5_, v1, m7_, uk ha.out 4 hb_ rfl rfl rfl, hb, fun _ h1_ => aU b 6 h1_, fun _ h1_ => aU b 6 h1_, fun _ => ho, fun h0_ => aF hoff 7 h0_⟩
  refine steps_cons ?_ ?_
  ·rintro b a w' ⟨s2_, s5_, s6_, m7_, ha, QHW, QH2, QH5, QH6, QX7_⟩ hb_ hon hoff; refine ⟨_, rfl, fun K hK => ?_⟩; have e9 := ek ha 4 6 9 (s6_) hon; replace ha := sd ha; have HW := sd QHW; have H6 := sd (QH6 (aC hon 6)); refine value_ (w1 := w') (v := s6_) (by rfl) rfl ?_ ?_
   ·go_simp; (try simp only [i64_w]); try rfl
   refine hK.out _ _ ⟨s2_, s5_, s6_, (s6_), uk ha.out 5 hb_ rfl rfl rfl, QHW, fun _ h1_ => aT hon 6 h1_, fun _ h1_ => aT hon 6 h1_, QH6, fun _ => rfl⟩
  exact steps_nil
 ·rintro b a w' hall ⟨s2_, s5_, s6_, m7_, ha, QHW, QH2, QH5, QH6, QX7_⟩; clear HW; have hb1_ := hall 1 (by kernel_rfl); have hb2_ := hall 2 (by kernel_rfl); have hb4_ := hall 4 (by kernel_rfl); have hb5_ := hall 5 (by kernel_rfl); have hb6_ := hall 6 (by kernel_rfl); have hb7_ := hall 7 (by kernel_rfl); subst ha; obtain rfl := QX7_ hb7_; simp only [putSel, hb1_, hb2_, hb4_, hb5_, hb6_, hb7_, if_true, Act.put, List.setIfInBounds_toArray, List.set_cons_zero, List.set_cons_succ]; have HW := sd QHW; clear QHW; clear QH2; clear QH5; have H6 := sd (QH6 hb6_); clear QH6; clear hall hb1_ hb2_ hb4_ hb5_ hb6_ hb7_; go_wp2; go_ret; refine ⟨_, rfl, ?_, below_step HB.out HW.out⟩; rw [HE.out]; exact Kd.R_lower H6.out HB.out.size
end Go.Proofs.YtbplemhjhpfkgaaDoor.Wr
namespace Go.Proofs.YtbplemhjhpfkgaaDoor.Wr
open Go.RowKit YtbplemhjhpfkgaaDoorW.PrintWords YtbplemhjhpfkgaaDoorW.PrintLast YtbplemhjhpfkgaaDoorW.PrintMore Rd Cd
attribute [local go_sem] max2_int min2_int max_two min_two max_three min_three max_four min_four
def mtReg.T1 : Bool × List (List Nat × List Nat) := (true, [([], []), ([], []), ([1], [1]), ([], []), ([3], [3]), ([4], [4]), ([5], [5]), ([2, 6], [2, 6]), ([0, 7], [0, 7]), ([], []), ([], []), ([10], [10]), ([], []), ([12], [12]), ([13], [13]), ([14], [14]), ([11, 15], [11, 15]), ([9, 16, 8], [9, 16]), ([0, 1, 2, 3, 4, 5, 6, 7, 8, 10, 11, 12, 13], []), ([18, 8, 17, 0, 1, 2, 3, 4, 5, 6, 7, 8, 10, 11, 12, 13], [8, 18]), ([0, 1, 2, 3, 4, 5, 6, 7, 8, 9, 10, 11, 12, 13, 14, 15, 16, 17, 18, 19], []), ([20, 17, 19, 0, 1, 2, 3, 4, 5, 6, 7, 8, 9, 10, 11, 12, 13, 14, 15, 16, 17, 18, 19], [17, 20])])
def mtReg.B1 : List Nat := [0, 0, 2, 0, 8, 24, 56, 126, 255, 0, 0, 1024, 0, 4096, 12288, 28672, 64512, 131071, 15871, 524287, 1048575, 2097151]
theorem mtReg.tab1 : rtab .any (opsOf Tryd.f40 1) = mtReg.T1 := by kernel_rfl
theorem mtReg.bits1 : waitsOk mtReg.T1.2 mtReg.B1 = true := by kernel_rfl
end Go.Proofs.YtbplemhjhpfkgaaDoor.Wr
namespace Go.Proofs.YtbplemhjhpfkgaaDoor.Wr
open Go.ChangeShapes Go.WideShapes Go.RowKit YtbplemhjhpfkgaaDoorW.PrintWords YtbplemhjhpfkgaaDoorW.PrintLast YtbplemhjhpfkgaaDoorW.PrintMore Rd
set_option maxRecDepth 100000
structure RowX where
 A : Option Addr
 c : Nat
 l : List Int
structure KeyM where
 a0 : Int
 a1 : Int
 a2 : Int
 a3 : Int
 a4 : Int
 p : RowX
 q : RowX
 r : RowX
 s : RowX
structure RowIn (w : World) (x : RowX) : Prop where
 C : Kd.C (Kd.int .i64) w x.A x.l.length x.l
 le : x.l.length ≤ x.c
structure KeyIn (w : World) (x : KeyM) : Prop where
 p : RowIn w x.p
 q : RowIn w x.q
 r : RowIn w x.r
 s : RowIn w x.s
section
variable {H : Type} {enc : TypeId × Value → H} {w : World} {base : Nat} {spare : Nat → Bool} {held : Bool}
theorem listedK {α : Type} {R : Nat → α → Prop} : ∀ n, (∀ i, i < n → ∃ y, R i y) → ∃ xs : List α, xs.length = n ∧ ∀ i y, xs[i]? = some y → R i y
 | 0, _ => ⟨[], rfl, by simp⟩
 | n + 1, h => by
  obtain ⟨xs, hl, hx⟩ := listedK n (fun i hi => h i (by omega)); obtain ⟨y, hy⟩ := h n (by omega); refine ⟨xs ++ [y], by simp [hl], fun i z hz => ?_⟩
  by_cases hi : i < xs.length
  ·rw [List.getElem?_append_left hi] at hz; exact hx i z hz
  ·rw [List.getElem?_append_right (by omega)] at hz; rcases hk : i - xs.length with _ | k
   ·rw [hk] at hz; obtain rfl : y = z := by simpa using hz
    obtain rfl : i = n := by omega
    exact hy
   ·rw [hk] at hz; simp at hz
theorem open_rowK {fuel : Nat} {cs : List Value} {x : DataW H × List MemPlace} (h : DataW.trod enc Tryd.prog w base spare held fuel 34 cs = some x) :
  ∃ y : RowX, cs = [.slice y.A y.l.length y.c] ∧ RowIn w y := by
 rcases Go.Deep.open_slice Tryd.underlying34 h with ⟨rfl, _⟩ | ⟨a, len, cap, m, n, D, Pl, rfl, hb, hle, hm, hmm, _, hx⟩
 ·exact ⟨⟨none, 0, []⟩, rfl, ⟨⟨rfl, by simp, fun h => absurd h (by simp)⟩, by simp⟩⟩
 ·have hlm : len ≤ m := by rw [hmm]; split <;> omega
  obtain ⟨xs, hxl, hxs⟩ := listedK (R := fun i (y : Int) => w.cells? base (a.add (i * 1)) 1 = some [Value.int .i64 y]) len (fun i hi => by
   obtain ⟨cs', h1, h2⟩ := hx i (by omega); obtain ⟨k1, e1, _, w1⟩ := DataW.trod_int Tryd.underlying3 h2; subst e1; rw [show Tryd.prog.cellsOf 3 = 1 by kernel_rfl] at h1; exact ⟨k1, h1⟩)
  subst hxl; have hm' : cap ≤ 9223372036854775807 := hm; refine ⟨⟨some a, cap, xs⟩, rfl, ⟨⟨rfl, by show xs.length ≤ _; omega, fun _ => ⟨a, rfl, fun i y hy => ⟨[Value.int .i64 y], rfl, rfl, fun j u hu => ?_⟩⟩⟩, hle⟩⟩; have hc := hxs i y hy; obtain ⟨_, hlen, hcell⟩ := World.cells?_some hc; have hj : j < 1 := by simpa using (List.getElem?_eq_some_iff.1 hu).1
  have := hcell j hj; rw [add_add] at this; exact this.trans hu
theorem open_twoK {fuel : Nat} {t : TypeId} {f0 f1 : Field} {cs : List Value} {x : DataW H × List MemPlace} (hs : Tryd.prog.underlying t = some (.struct #[f0, f1])) (h0 : f0.type = 34 ∧ f0.offset = 0) (h1 : f1.type = 34 ∧ f1.offset = 1) (hC : Tryd.prog.cellsOf t = 2) (h : DataW.trod enc Tryd.prog w base spare held fuel t cs = some x) :
  ∃ y z : RowX, cs = [.slice y.A y.l.length y.c, .slice z.A z.l.length z.c] ∧ RowIn w y ∧ RowIn w z := by
 obtain ⟨ys, n, _, _, hl, hlen, hf⟩ := DataW.trod_struct hs h; rw [hC] at hl; have g0 := hf 0 f0 rfl; have g1 := hf 1 f1 rfl
 match ys, hlen, cs, hl with
 | [y0, y1], _, [v0, v1], _ =>
  simp [h0.1, h0.2, h1.1, h1.2, show Tryd.prog.cellsOf 34 = 1 by kernel_rfl] at g0 g1
  obtain ⟨r0, e0, k0⟩ := open_rowK g0; obtain ⟨r1, e1, k1⟩ := open_rowK g1; simp at e0 e1; subst e0 e1; exact ⟨r0, r1, rfl, k0, k1⟩
end
end Go.Proofs.YtbplemhjhpfkgaaDoor.Wr
namespace Go.Proofs.YtbplemhjhpfkgaaDoor.Cd
open Go.RowKit YtbplemhjhpfkgaaDoorW.PrintWords YtbplemhjhpfkgaaDoorW.PrintLast YtbplemhjhpfkgaaDoorW.PrintMore Rd
open Go.Proofs.YtbplemhjhpfkgaaDoor.Ft (Door Chain AsF_calls AsF_none)
def kPt : Kd Nat := Kd.scalar (fun g : Nat => Value.pointer (some ⟨g, 0, none⟩)) (fun _ => rfl)
theorem infoPt : (Tryd.prog.info? 117).map (fun i => (i.zero, i.size, i.bytes)) = some (some (.pointer none), 1, 8) := by kernel_rfl
def FAt (w : World) (gs : List Nat) (fs : List (ByteArray × Int)) : Prop :=
 gs.length = fs.length ∧ ∀ (i g : Nat) (x : ByteArray × Int), gs[i]? = some g → fs[i]? = some x → ∃ u : Value, w.heap[g]? = some (Obj.cells #[.string x.1, .int .i64 x.2, u] 119 (0, 0))
theorem Chain_keep {w w1 : World} {b : Nat} {cells : Array Value} (hk : KeepBut w w1 b none) (hb : w.heap[b]? = some (.cells cells 117 (0, 0))) : ∀ {fs : List (ByteArray × Int)} {c : Int} {v : Value}, Chain w fs c v → Chain w1 fs c v
 | [], _, _, hc => hc
 | x :: r, _, _, ⟨g, u, e, hg, hr⟩ => ⟨g, u, e, KeepBut.blk hk hg (by rintro rfl; rw [hb] at hg; simp at hg) (by simp), Chain_keep hk hb hr⟩
theorem R_ne2 {α : Type} {d : Kd α} {T t : TypeId} {w : World} {base g : Nat} {v : Value} {xs : List α} {cells : Array Value} (h : Kd.R d T w base (fun _ => True) v xs) (hb : w.heap[g]? = some (Obj.cells cells t (0, 0))) (ht : T ≠ t) : some g ≠ v.ownBlock := by
 obtain ⟨_, inner, ho, _⟩ := h; exact own_ne ho hb ht
theorem R_apart2 {α : Type} {d : Kd α} {T : TypeId} {w w1 : World} {base g : Nat} {v : Value} {xs : List α} (h : Kd.R d T w base (fun _ => True) v xs) (hE : d.E = []) (hne : some g ≠ v.ownBlock) (hk : KeepBut w w1 g none) : Kd.R d T w1 base (fun _ => True) v xs :=
 Kd.R_mono (Kd.R_keep (Kd.R_far1 h hE hne) hk (fun k hk => hk.2)) (fun _ _ => trivial)
theorem FAt_keep {w w1 : World} {gs : List Nat} {fs : List (ByteArray × Int)} (h : FAt w gs fs) (hk : ∀ (k : Nat) (o : Obj), w.heap[k]? = some o → w1.heap[k]? = some o) : FAt w1 gs fs :=
 ⟨h.1, fun i g x hi hx => by obtain ⟨u, hu⟩ := h.2 i g x hi hx; exact ⟨u, hk _ _ hu⟩⟩
theorem FAt_type {w w1 : World} {gs : List Nat} {fs : List (ByteArray × Int)} {b : Nat} {cells : Array Value} (h : FAt w gs fs) (hb : w.heap[b]? = some (.cells cells 117 (0, 0))) (hk : KeepBut w w1 b none) : FAt w1 gs fs :=
 ⟨h.1, fun i g x hi hx => by obtain ⟨u, hu⟩ := h.2 i g x hi hx; exact ⟨u, KeepBut.blk hk hu (by rintro rfl; rw [hb] at hu; simp at hu) (by simp)⟩⟩
theorem FAt_grown {w w1 : World} {gs : List Nat} {fs : List (ByteArray × Int)} {base : Nat} {v : Value} {xs : List Nat} (h : FAt w gs fs) (hr : Kd.R kPt 117 w base (fun _ => True) v xs) (hg : w.grownBy w1 v.ownBlock) : FAt w1 gs fs :=
 ⟨h.1, fun i g x hi hx => by obtain ⟨u, hu⟩ := h.2 i g x hi hx; exact ⟨u, (hg.block _ (blk_lt hu) (R_ne2 hr hu (by decide))).trans hu⟩⟩
theorem Chain_grown {w w1 : World} {base : Nat} {vv : Value} {xs : List Nat} (hr : Kd.R kPt 117 w base (fun _ => True) vv xs) (hg : w.grownBy w1 vv.ownBlock) : ∀ {fs : List (ByteArray × Int)} {c : Int} {v : Value}, Chain w fs c v → Chain w1 fs c v
 | [], _, _, hc => hc
 | x :: r, _, _, ⟨g, u, e, hb, hc⟩ => ⟨g, u, e, (hg.block _ (blk_lt hb) (R_ne2 hr hb (by decide))).trans hb, Chain_grown hr hg hc⟩
theorem FAt_snoc {w : World} {gs : List Nat} {fs : List (ByteArray × Int)} {j g : Nat} {x : ByteArray × Int} {u : Value} (h : FAt w gs (fs.take j)) (hx : fs[j]? = some x) (hj : gs.length = j) (hg : w.heap[g]? = some (Obj.cells #[.string x.1, .int .i64 x.2, u] 119 (0, 0))) : FAt w (gs ++ [g]) (fs.take (j + 1)) := by
 obtain ⟨hl, rfl⟩ := List.getElem?_eq_some_iff.1 hx; rw [List.take_succ_eq_append_getElem hl]; refine ⟨by rw [List.length_append, List.length_append, h.1]; rfl, fun i g' x' hi hx' => ?_⟩; have e1 : (fs.take j).length = j := by rw [List.length_take]; omega
 by_cases hij : i < j
 ·rw [List.getElem?_append_left (by omega)] at hi hx'; exact h.2 i g' x' hi hx'
 ·rw [List.getElem?_append_right (by omega)] at hi hx'; rw [hj] at hi; rw [e1] at hx'; rcases hk : i - j with _ | k
  ·rw [hk] at hi hx'; obtain rfl : g = g' := by simpa using hi
   obtain rfl : fs[j] = x' := by simpa using hx'
   exact ⟨u, hg⟩
  ·rw [hk] at hi; simp at hi
set_option maxRecDepth 100000 in
set_option maxHeartbeats 8000000 in
theorem faults_calls (fs : List (ByteArray × Int)) (c : Int) (v : Value) (w : World) (hg : Door w) (hc : Chain w fs c v) (hn : fs.length ≤ 1000) :
  Calls Tryd.prog 59 #[v] w fun e w' => ∃ (A : Option Addr) (cc : Nat) (gs : List Nat), e = .returned (.slice A gs.length cc) ∧ Kd.R kPt 117 w' w.heap.size (fun _ => True) (.slice A gs.length cc) gs ∧ FAt w' gs fs ∧ Below w.heap.size w w' := by
 have HG := sd hg; have HC := sd hc; have HC0 := sd (Go.Proofs.YtbplemhjhpfkgaaDoor.Ft.Chain.below (below_alloc (Below.refl w.heap.size w) (.cells #[.pointer none] 117)) HC.out); have HF := sd (blk_new w (.cells #[.pointer none] 117)); have HW := sd (below_alloc (Below.refl w.heap.size w) (.cells #[.pointer none] 117)); clear hg hc
 go_enter Tryd.func59, Tryd.ntmps59
 go_upto_block 0 with fail
 generalize (w.alloc (.cells #[.pointer none] 117)) = wf at *
 go_cut [3] (fun v wx => ∃ (A : Option Addr) (cc : Nat) (gs : List Nat), v = .slice A gs.length cc ∧ Aside0 (Kd.R kPt 117 wx (w.heap.size + 1) (fun _ => True) (.slice A gs.length cc) gs) ∧ Aside0 (FAt wx gs fs) ∧ Aside0 (Below w.heap.size w wx))
 case first =>
  go_wp2_with fail
  go_loopw [0, 3] (fun ev v wr => ∃ (j : Nat) (A : Option Addr) (cc : Nat) (gs : List Nat) (old : Value), j ≤ fs.length ∧ v = .slice A gs.length cc ∧ gs.length = j ∧ Aside0 (Chain wr (fs.drop j) c ev) ∧ Aside0 (Kd.R kPt 117 wr (w.heap.size + 1) (fun _ => True) (.slice A gs.length cc) gs) ∧ Aside0 (FAt wr gs (fs.take j)) ∧ Aside0 (wr.heap[w.heap.size]? = some (Obj.cells #[old] 117 (0, 0))) ∧ Aside0 (Below w.heap.size w wr)) (fun _ v _ => match v with | .slice _ n _ => fs.length - n | _ => 0)
  case atStart => exact ⟨0, none, 0, [], .pointer none, Nat.zero_le _, rfl, rfl, HC0, ⟨Kd.R_nil _ _ _ _ _⟩, ⟨rfl, fun i g x h => by simp at h⟩, HF, HW⟩
  case round =>
   obtain ⟨j, A, cc, gs, old, hj, rfl, rfl, HCh, HO, HA, HFb, HWr⟩ := hrel; have HGr := sd (Go.Proofs.YtbplemhjhpfkgaaDoor.Ft.Door.below HG.out HWr.out); cases hd : fs.drop gs.length with
   | nil =>
    have hch := HCh.out; rw [hd] at hch; obtain rfl := hch; have hjl : gs.length = fs.length := by have := List.length_drop (i := gs.length) (l := fs); rw [hd] at this; simp at this; omega
    have hta : fs.take gs.length = fs := by rw [hjl, List.take_length]
    rw [hta] at HA; clear hd HCh hta hjl; go_wp2_with (go_at_call 46; refine (AsF_none c w.heap.size old _ HGr.out HFb.out).mono ?_; rintro e w2 ⟨rfl, hB⟩; replace HWr := sd (below_step HWr.out hB); replace HO := sd (Kd.R_below HO.out hB); replace HA := sd (FAt_keep HA.out (fun k o h => blk_below h hB)); clear hB); go_meet
    case rel => exact ⟨A, cc, gs, rfl, HO, HA, HWr⟩
   | cons x r =>
    have hch := HCh.out; rw [hd] at hch; have HCx := sd hch; have hjl : gs.length < fs.length := by have := List.length_drop (i := gs.length) (l := fs); rw [hd] at this; simp at this; omega
    have hxj : fs[gs.length]? = some x := by rw [List.getElem?_eq_getElem hjl]; have h2 := List.drop_eq_getElem_cons hjl; rw [hd] at h2; injection h2 with h3 h4; rw [h3]
    have hdr : fs.drop (gs.length + 1) = r := by have h2 := List.drop_eq_getElem_cons hjl; rw [hd] at h2; injection h2 with h3 h4; exact h4.symm
    have HXJ := Lib.hid hxj; have HDR := Lib.hid hdr; have HNE := sd (show some w.heap.size ≠ (Value.slice A gs.length cc).ownBlock from fun e_ => absurd (Kd.R_base HO.out _ e_.symm) (by omega)); have hgl : gs.length ≤ 1000 := by omega
    clear hd HCh hch hxj hdr
    go_upto_region 4 with (go_at_call 46; refine (AsF_calls x r c _ old w.heap.size _ HGr.out HCx.out HFb.out).mono ?_; rintro e w2 ⟨rfl, ⟨g, u, rfl, hgx, hr, hq⟩, hB, hK⟩; have HK := sd hK; have HGx := sd (KeepBut.blk hK hgx (by rintro rfl; rw [HFb.out] at hgx; simp at hgx) (by simp)); have HCr := sd (Chain_keep hK HFb.out hr); have HQ := sd hq; replace HWr := sd (HWr.out.trans hB); replace HO := sd (R_apart2 HO.out rfl HNE.out hK); replace HA := sd (FAt_type HA.out HFb.out hK); clear hgx hr hq hB hK)
    have q0 := (blk_cell HQ.out 0).trans (rfl : _ = some (Value.pointer (some ⟨g, 0, none⟩))); have hsz := HWr.out.size; have hqs := blk_lt HQ.out
    go_upto_region 5 with ((with_reducible refine gate_builtin (b := .append) (xs := #[.tmp 8, .tmp 10]) rfl ?_); at_builtin; refine Kd.R_append (kPt) (w0 := w2) (w.heap.size + 1) rfl (.tmp 8) (.tmp 10) 115 117 (.pointer none) 8 rfl Tryd.underlying115 infoPt rfl (by decide) (by omega) (.slice A gs.length cc) (gs) (g) [.pointer (some ⟨g, 0, none⟩)] (fun _ => True) (fun _ => False) rfl ?aX ?aP (fun _ hk => hk.elim) ?aF ?aO ?aB ?aS ?aL ?_; (case aX => first | rfl | (simp [Act.eval]; done)); (case aP => exact rfl); (case aB => exact (by repeat (with_reducible first | exact Below.refl _ _ | apply below_alloc | apply pw_below_drewN | apply below_drew1))); (case aF => exact (fun _ _ => trivial)); (case aO => exact (by (with_reducible repeat (first | apply Kd.R_alloc | apply Kd.R_drewN | apply Kd.R_drew)); exact HO.out)); (case aS => exact Nat.le_trans ((show w.heap.size + 1 ≤ w2.heap.size by omega)) (below_size (by repeat (with_reducible first | exact Below.refl _ _ | apply below_alloc | apply pw_below_drewN | apply below_drew1)))); (case aL => omega); intro v1 w1 ho hb hg hat; obtain ⟨A1, c1, rfl⟩ := Kd.R_slice ho; have HO3 := sd ho; have HQ3 := sd ((hg.block _ (blk_lt HQ.out) HNE.out).trans HQ.out); have HGx3 := sd ((hg.block _ (blk_lt HGx.out) (R_ne2 HO.out HGx.out (by decide))).trans HGx.out); have HW3 := sd (below_weaken HWr.out (Nat.le_succ _) hb); have HA3 := sd (FAt_grown HA.out HO.out hg); have HCr3 := sd (Chain_grown HO.out hg HCr.out); clear ho hb hg hat q0)
    have q0 := (blk_cell HQ3.out 0).trans (rfl : _ = some (Value.pointer (some ⟨g, 0, none⟩))); have q2 := (blk_cell HGx3.out 2).trans (rfl : _ = some u); go_wp2
    go_roundw
    case rel => exact ⟨gs.length + 1, A1, c1, gs ++ [g], .pointer (some ⟨g, 0, none⟩), hjl, by simp, by simp, ⟨by rw [HDR.out]; exact HCr3.out⟩, HO3, ⟨FAt_snoc HA3.out HXJ.out rfl HGx3.out⟩, HQ3, HW3⟩
    case measure => simp; omega
 case rest =>
  obtain ⟨A, cc, gs, rfl, HO, HA, HWx⟩ := hcut; go_wp2; go_ret; exact ⟨A, cc, gs, rfl, Kd.R_lower HO.out (Nat.le_succ _), HA.out, HWx.out⟩
theorem pt_cell {w : World} {base g n c j : Nat} {a : Addr} {xs : List Nat} (h : Kd.R kPt 117 w base (fun _ => True) (.slice (some a) n c) xs) (hx : xs[j]? = some g) : w.cell? (a.add j) = some (.pointer (some ⟨g, 0, none⟩)) := by
 obtain ⟨hn, _, hC⟩ := Kd.R_reads' h; have hj : j < xs.length := (List.getElem?_eq_some_iff.1 hx).1; obtain ⟨ad, e, hc⟩ := hC.2.2 (by omega); obtain rfl : _ = ad := Option.some.inj e; obtain ⟨cs, _, hr, hcell⟩ := hc j g hx; have hr' : cs = [.pointer (some ⟨g, 0, none⟩)] := hr; subst hr'; have h0 := hcell 0 _ rfl
 simpa [Addr.add, kPt, Kd.scalar] using h0
def kTs : Kd ByteArray := Kd.scalar Value.string (fun _ => rfl)
theorem infoTs : (Tryd.prog.info? 9).map (fun i => (i.zero, i.size, i.bytes)) = some (some (.string ByteArray.empty), 1, 16) := by kernel_rfl
set_option maxRecDepth 100000 in
set_option maxHeartbeats 8000000 in
theorem Trace_calls (fs : List (ByteArray × Int)) (c : Int) (v : Value) (w : World) (hg : Door w) (hc : Chain w fs c v) (hn : fs.length ≤ 1000) :
  Calls Tryd.prog 27 #[v] w fun e w' => ∃ (A : Option Addr) (cc : Nat), e = .returned (.slice A fs.length cc) ∧ Kd.R kTs 9 w' w.heap.size (fun _ => True) (.slice A fs.length cc) (fs.map (·.1)) ∧ Below w.heap.size w w' := by
 have HG := sd hg; have HC := sd hc; clear hg hc
 go_enter Tryd.func27, Tryd.ntmps27
 go_upto_block 0 with (go_at_call 59; refine (faults_calls fs c v _ HG.out HC.out hn).mono ?_; rintro e w0 ⟨A0, c0, gs, rfl, ho, ha, hb⟩; have HO0 := sd ho; have HA0 := sd ha; have HW0 := sd hb; clear ho ha hb)
 obtain ⟨hgl, -, -⟩ := Kd.R_reads' HO0.out; have hgf := HA0.out.1; have hws := HW0.out.size; go_wp2_with fail
 go_loopw [3, 9] (fun v iv wr => ∃ (j : Nat) (A : Option Addr) (cc : Nat) (ss : List ByteArray), j ≤ fs.length ∧ iv = .int .i64 j ∧ v = .slice A ss.length cc ∧ ss = (fs.take j).map (·.1) ∧ Aside0 (Kd.R kTs 9 wr w0.heap.size (fun _ => True) (.slice A ss.length cc) ss) ∧ Aside0 (Below w0.heap.size w0 wr)) (fun _ iv _ => match iv with | .int _ n => (fs.length - n).toNat | _ => 0)
 case atStart => exact ⟨0, none, 0, [], Nat.zero_le _, rfl, rfl, rfl, ⟨Kd.R_nil _ _ _ _ _⟩, ⟨Below.refl _ _⟩⟩
 case round =>
  obtain ⟨j, A, cc, ss, hj, rfl, rfl, hss, HO, HWr⟩ := hrel; have hsl : ss.length = j := by rw [hss]; simp; omega
  by_cases hjl : j < fs.length
  ·obtain ⟨g0, hg0, -⟩ := (Kd.R_reads' HO0.out).2.2.2.2 (by omega); subst hg0; have HPt := sd (Kd.R_below HO0.out HWr.out); have hgj : gs[j]? = some gs[j] := List.getElem?_eq_getElem (by omega); have hfj : fs[j]? = some fs[j] := List.getElem?_eq_getElem (by omega); obtain ⟨u, hu⟩ := (FAt_keep HA0.out (fun k o h => blk_below h HWr.out)).2 j _ _ hgj hfj; have q0 := pt_cell HPt.out hgj; have HU := sd hu; have q1 := (blk_cell hu 0).trans (rfl : _ = some (Value.string fs[j].1)); clear hu
   go_upto_region 5 with fail
   go_upto_region 6 with ((with_reducible refine gate_builtin (b := .append) (xs := #[.tmp 13, .tmp 18]) rfl ?_); at_builtin; refine Kd.R_append (kTs) (w0 := w0) (w0.heap.size) rfl (.tmp 13) (.tmp 18) 62 9 (.string ByteArray.empty) 16 rfl Tryd.underlying62 infoTs rfl (by decide) (by omega) (.slice A ss.length cc) (ss) (fs[j].1) [.string fs[j].1] (fun _ => True) (fun _ => False) rfl ?aX ?aP (fun _ hk => hk.elim) ?aF ?aO ?aB ?aS ?aL ?_; (case aX => first | rfl | (simp [Act.eval]; done)); (case aP => exact rfl); (case aB => exact (by repeat (with_reducible first | exact HWr.out | apply below_alloc | apply pw_below_drewN | apply below_drew1))); (case aF => exact (fun _ _ => trivial)); (case aO => exact (by (with_reducible repeat (first | apply Kd.R_alloc | apply Kd.R_drewN | apply Kd.R_drew)); exact HO.out)); (case aS => exact (below_size (by repeat (with_reducible first | exact HWr.out | apply below_alloc | apply pw_below_drewN | apply below_drew1)))); (case aL => omega); intro v1 w1 ho hb hg hat; obtain ⟨A1, c1, rfl⟩ := Kd.R_slice ho; have HO3 := sd ho; have HW3 := sd hb; clear ho hb hg hat q0 q1)
   go_wp2
   go_roundw
   case rel => exact ⟨j + 1, A1, c1, ss ++ [fs[j].1], hjl, rfl, by simp [hsl], by rw [List.take_succ_eq_append_getElem hjl, List.map_append, ← hss]; rfl, HO3, HW3⟩
   case measure => simp; omega
  ·obtain rfl : j = fs.length := by omega
   go_wp2; go_ret; exact ⟨A, cc, by rw [hsl]; rfl, by have := HO.out; rw [hss, List.take_length] at this; rw [← hsl, hss, List.take_length]; exact Kd.R_lower this hws, below_weaken HW0.out hws HWr.out⟩
end Go.Proofs.YtbplemhjhpfkgaaDoor.Cd
namespace Go.Proofs.YtbplemhjhpfkgaaDoor.PCodeKinds
open Go.RowKit YtbplemhjhpfkgaaDoorW.PrintWords YtbplemhjhpfkgaaDoorW.PrintLast YtbplemhjhpfkgaaDoorW.PrintMore
attribute [local go_sem] max2_int min2_int max_two min_two max_three min_three max_four min_four   -- for this text's walks alone
def broadsidebook_Same_string.l0 : Nat → List ByteArray → List ByteArray → Int → Option (Bool)
 | 0, _, _, _ => none
 | k + 1, x0, x1, x5 => if x5 < (x0.length : Int) then (if 0 ≤ x5 then (if x5 < (x1.length : Int) then (if (rdOf ByteArray.empty x0 x5).toList = (rdOf ByteArray.empty x1 x5).toList then (broadsidebook_Same_string.l0 k x0 x1 (wrap64 (x5 + 1))) else (some false)) else (none)) else (none)) else (some true)
def broadsidebook_Same_string.f (k : Nat) (l0 : List ByteArray) (l1 : List ByteArray) : Option (Bool) := if (l0.length : Int) = (l1.length : Int) then (broadsidebook_Same_string.l0 k l0 l1 0) else (some false)
set_option maxHeartbeats 8000000 in
set_option maxRecDepth 100000 in
theorem broadsidebook_Same_string.calls (k : Nat) (A0 : Option Addr) (c0 : Nat) (l0 : List ByteArray) (A1 : Option Addr) (c1 : Nat) (l1 : List ByteArray) (r : Bool) (w : World) (hr0 : Kd.C Kd.string w A0 l0.length l0) (hc0 : l0.length ≤ c0) (hr1 : Kd.C Kd.string w A1 l1.length l1) (hc1 : l1.length ≤ c1) (h : broadsidebook_Same_string.f k l0 l1 = some r) :
  Calls Tryd.prog 26 #[.slice A0 l0.length c0, .slice A1 l1.length c1] w fun e w' => e = .returned (.bool r) ∧ Drawn0 w w' := by
 have HR0 := sd hr0; have HC0 := sd hc0; clear hr0 hc0; have HR1 := sd hr1; have HC1 := sd hc1; clear hr1 hc1; have H : (if (l0.length : Int) = (l1.length : Int) then (broadsidebook_Same_string.l0 k l0 l1 0) else (some false)) = some r := h; clear h
 by_cases c3 : (l0.length : Int) = (l1.length : Int)
 ·rw [if_pos c3] at H; have c3b0 : ((l0.length : Int) == (l1.length : Int)) = true := beq_iff_eq.mpr c3; have c3b1 : ((l0.length : Int) != (l1.length : Int)) = false := bne_eq_false_iff_eq.mpr c3; have c3b2 : (l0.length == l1.length) = true := by first | simpa using c3 | (simp at c3 ⊢; omega)
  clear c3; have H' := sd H; clear H
  go_enter Tryd.func26, Tryd.ntmps26
  go_wp2
  repeat (go_quiet (fail); try go_wp2)
  go_loopg [5] k (fun kq v5 w' => ∃ (x5_1 : Int), v5 = .int .i64 x5_1 ∧ Aside0 (broadsidebook_Same_string.l0 kq l0 l1 x5_1 = some r) ∧ Aside0 (kq ≤ k) ∧ Drawn0 w w')
  case atStart => exact ⟨(0), (by first | rfl | (simp; done) | (simp [*]; done)), H', ⟨Nat.le_refl _⟩, by repeat (first | exact Drawn0.refl _ | apply Drawn0.step)⟩
  case round =>
   clear H'; try clear c1
   try clear c2
   try clear p2
   try clear c3
   try clear c3b0
   try clear c3b1
   try clear c3b2
   obtain ⟨x5_1, rfl, HA, HK1, ⟨m1, rfl⟩⟩ := hrel; cases gk with
   | zero => exact absurd HA.out (by simp [broadsidebook_Same_string.l0])
   | succ k1 =>
    have H := HA.out; clear HA; simp only [broadsidebook_Same_string.l0] at H
    by_cases c4 : x5_1 < (l0.length : Int)
    ·rw [if_pos c4] at H; have c4b0 : decide (x5_1 < (l0.length : Int)) = true := decide_eq_true c4; clear c4
     by_cases c5 : 0 ≤ x5_1
     ·rw [if_pos c5] at H; have c5b0 : decide (0 ≤ x5_1) = true := decide_eq_true c5; clear c5
      by_cases c6 : x5_1 < (l1.length : Int)
      ·rw [if_pos c6] at H; have c6b0 : decide (x5_1 < (l1.length : Int)) = true := decide_eq_true c6; clear c6
       by_cases c7 : (rdOf ByteArray.empty l0 x5_1).toList = (rdOf ByteArray.empty l1 x5_1).toList
       ·rw [if_pos c7] at H; have c7b0 : ((rdOf ByteArray.empty l0 x5_1).toList == (rdOf ByteArray.empty l1 x5_1).toList) = true := beq_iff_eq.mpr c7; have c7b1 : ((rdOf ByteArray.empty l0 x5_1).toList != (rdOf ByteArray.empty l1 x5_1).toList) = false := bne_eq_false_iff_eq.mpr c7; clear c7; have H' := sd H; clear H; have p317 : 0 ≤ (x5_1 : Int) := of_decide_eq_true (by first | (with_reducible assumption) | assumption); have q317 : x5_1 < (l0.length : Int) := of_decide_eq_true (by first | (with_reducible assumption) | assumption); obtain ⟨ad317, e317, hx317_0⟩ := Kd.at_string HR0.out x5_1 p317 q317; cases e317; replace p317 := eq_true p317; replace q317 := eq_true q317; have p318 : 0 ≤ (x5_1 : Int) := of_decide_eq_true (by first | (with_reducible assumption) | assumption); have q318 : x5_1 < (l1.length : Int) := of_decide_eq_true (by first | (with_reducible assumption) | assumption); obtain ⟨ad318, e318, hx318_0⟩ := Kd.at_string HR1.out x5_1 p318 q318; cases e318; replace p318 := eq_true p318; replace q318 := eq_true q318; go_wp2
        repeat (go_quiet (fail); try go_wp2)
        go_roundg k1
        case measure => have := HK1.out; omega
        case rel => exact ⟨(wrap64 (x5_1 + 1)), (by first | rfl | (simp; done) | (simp [*]; done)), H', ⟨by have := HK1.out; omega⟩, by repeat (first | exact Drawn0.refl _ | apply Drawn0.step)⟩
       ·rw [if_neg c7] at H; have c7b0 : ((rdOf ByteArray.empty l0 x5_1).toList == (rdOf ByteArray.empty l1 x5_1).toList) = false := beq_eq_false_iff_ne.mpr c7; have c7b1 : ((rdOf ByteArray.empty l0 x5_1).toList != (rdOf ByteArray.empty l1 x5_1).toList) = true := bne_iff_ne.mpr c7; obtain rfl := Option.some.inj H; have p317 : 0 ≤ (x5_1 : Int) := of_decide_eq_true (by first | (with_reducible assumption) | assumption); have q317 : x5_1 < (l0.length : Int) := of_decide_eq_true (by first | (with_reducible assumption) | assumption); obtain ⟨ad317, e317, hx317_0⟩ := Kd.at_string HR0.out x5_1 p317 q317; cases e317; replace p317 := eq_true p317; replace q317 := eq_true q317; have p318 : 0 ≤ (x5_1 : Int) := of_decide_eq_true (by first | (with_reducible assumption) | assumption); have q318 : x5_1 < (l1.length : Int) := of_decide_eq_true (by first | (with_reducible assumption) | assumption); obtain ⟨ad318, e318, hx318_0⟩ := Kd.at_string HR1.out x5_1 p318 q318; cases e318; replace p318 := eq_true p318; replace q318 := eq_true q318; go_wp2
        repeat (go_quiet (fail); try go_wp2)
        go_ret; exact ⟨by first | rfl | (simp; done) | (simp [*]; done), by repeat (first | exact Drawn0.refl _ | apply Drawn0.step)⟩
      ·rw [if_neg c6] at H; exact absurd H (by simp)
     ·rw [if_neg c5] at H; exact absurd H (by simp)
    ·rw [if_neg c4] at H; have c4b0 : decide (x5_1 < (l0.length : Int)) = false := decide_eq_false c4; clear c4; obtain rfl := Option.some.inj H; go_wp2
     repeat (go_quiet (fail); try go_wp2)
     go_ret; exact ⟨by first | rfl | (simp; done) | (simp [*]; done), by repeat (first | exact Drawn0.refl _ | apply Drawn0.step)⟩
 ·rw [if_neg c3] at H; have c3b0 : ((l0.length : Int) == (l1.length : Int)) = false := beq_eq_false_iff_ne.mpr c3; have c3b1 : ((l0.length : Int) != (l1.length : Int)) = true := bne_iff_ne.mpr c3; have c3b2 : (l0.length == l1.length) = false := by first | simpa using c3 | (simp at c3 ⊢; omega)
  obtain rfl := Option.some.inj H
  go_enter Tryd.func26, Tryd.ntmps26
  go_wp2
  repeat (go_quiet (fail); try go_wp2)
  go_ret; exact ⟨by first | rfl | (simp; done) | (simp [*]; done), by repeat (first | exact Drawn0.refl _ | apply Drawn0.step)⟩






end Go.Proofs.YtbplemhjhpfkgaaDoor.PCodeKinds
