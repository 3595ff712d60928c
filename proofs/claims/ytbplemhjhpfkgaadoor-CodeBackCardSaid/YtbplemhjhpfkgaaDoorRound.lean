/-
  An operation's bytes are read back: code.Decode of what code.Encode made.
-/
import Derived.Test.YtbplemhjhpfkgaaDoorOpRow
namespace Go.Proofs.YtbplemhjhpfkgaaDoor.Cd
open Go.RowKit Go.Proofs.YtbplemhjhpfkgaaDoorW.PrintWords Go.Proofs.YtbplemhjhpfkgaaDoorW.PrintLast Go.Proofs.YtbplemhjhpfkgaaDoorW.PrintMore Go.Proofs.YtbplemhjhpfkgaaDoor.Rd
set_option linter.unusedVariables false
set_option linter.unusedSimpArgs false
def InI64 (n : Int) : Prop := -9223372036854775808 ≤ n ∧ n ≤ 9223372036854775807
theorem digits (n : Int) (h1 : -9223372036854775808 ≤ n) (h2 : n ≤ 9223372036854775807) :
    n = (if n < 0 then -18446744073709551616 else 0) + byteAt n 0 * 72057594037927936 + byteAt n 1 * 281474976710656 + byteAt n 2 * 1099511627776 + byteAt n 3 * 4294967296 + byteAt n 4 * 16777216 + byteAt n 5 * 65536 + byteAt n 6 * 256 + byteAt n 7 := by
  unfold byteAt
  simp only [Nat.reduceSub, Nat.reduceMul, Int.reducePow]
  split <;> omega
theorem numOf_be8 (n : Int) (h : InI64 n) : wrap64 (numOf (be8 n)) = n := by
  have d := digits n h.1 h.2
  have e : numOf (be8 n) = byteAt n 0 * 72057594037927936 + byteAt n 1 * 281474976710656 + byteAt n 2 * 1099511627776 + byteAt n 3 * 4294967296 + byteAt n 4 * 16777216 + byteAt n 5 * 65536 + byteAt n 6 * 256 + byteAt n 7 := by
    unfold numOf be8
    simp only [List.foldl_cons, List.foldl_nil]
    omega
  obtain ⟨h1, h2⟩ := h
  rw [e]
  unfold wrap64
  split at d <;> omega
theorem rdN_be8 (n : Int) (h : InI64 n) (r : List Int) : rdN (be8 n ++ r, false) = (n, (r, false)) := by
  unfold rdN number1
  rw [if_neg (by simp [be8_len])]
  rw [show (be8 n ++ r).take 8 = be8 n from List.take_left' rfl, show (be8 n ++ r).drop 8 = r from List.drop_left' rfl, numOf_be8 n h]
theorem rdB_one (b : Int) (r : List Int) : rdB ([b] ++ r, false) = (b, (r, false)) := by simp [rdB, byte1]
theorem strOfNums_bytesOf (s : ByteArray) : strOfNums (bytesOf s) = s := by
  obtain ⟨⟨l⟩⟩ := s
  simp only [strOfNums, bytesOf, List.map_map]
  congr 1
  have : ((fun n : Int => UInt8.ofNat n.toNat) ∘ fun b : UInt8 => (b.toNat : Int)) = id := by funext b; simp only [Function.comp, Int.toNat_natCast, UInt8.ofNat_toNat, id]
  simp [this]
theorem bytesOf_strOfNums (r : List Int) (h : Byt r) : bytesOf (strOfNums r) = r := by
  simp only [strOfNums, bytesOf, List.map_map]
  conv => rhs; rw [← List.map_id r]
  refine List.map_congr_left fun x hx => ?_
  have := h x hx
  simp only [Function.comp, id]
  rw [UInt8.toNat_ofNat']
  omega
theorem rdT_text (s : ByteArray) (h : s.size ≤ 255) (r : List Int) : rdT (text8 s ++ r, false) = (s, (r, false)) := by
  unfold rdT text8 text1
  rw [if_neg (by omega)]
  have hb : byte1 ((s.size : Int) :: bytesOf s ++ r) false = ((s.size : Int), bytesOf s ++ r, false) := by simp [byte1]
  show (strOfNums (takes (byte1 ((s.size : Int) :: bytesOf s ++ r) false).2.1 (byte1 ((s.size : Int) :: bytesOf s ++ r) false).2.2 (byte1 ((s.size : Int) :: bytesOf s ++ r) false).1).1, _) = _
  rw [hb]
  unfold takes
  rw [if_neg (by simp only [Bool.false_eq_true, false_or, List.length_append, bytesOf_length]; omega)]
  simp only [Bool.false_eq_true, if_false, Int.toNat_natCast]
  rw [← bytesOf_length, List.take_left' rfl, List.drop_left' rfl, strOfNums_bytesOf]
def WfC (x : Co) : Prop := InI64 x.2.2.1 ∧ InI64 x.2.2.2.1
def WfA (x : At) : Prop := InI64 x.2.2.1
structure WfD (o : OpD) : Prop where
  c : InI64 o.c
  q : InI64 o.q
  h : InI64 o.h
  a : InI64 o.a
  t : InI64 o.t
  p : ∀ x ∈ o.p, WfC x
  s : ∀ x ∈ o.s, WfA x
theorem be8s_two (x y : Int) : be8s [x, y] = be8 x ++ be8 y := by simp [be8s]
theorem be8s_oneL (x : Int) : be8s [x] = be8 x := by simp [be8s]
theorem be8s_five (a b c d e : Int) : be8s [a, b, c, d, e] = be8 a ++ (be8 b ++ (be8 c ++ (be8 d ++ be8 e))) := by simp [be8s]
theorem rdCo_cB (x : Co) (hx : okC x = true) (hw : WfC x) (r : List Int) : rdCo (cB x ++ r, false) = (x, (r, false)) := by
  obtain ⟨n, k, lo, hi, t⟩ := x
  simp only [okC, Bool.and_eq_true, decide_eq_true_iff] at hx
  have hn : n.size ≤ 255 := by omega
  have ht : t.size ≤ 255 := by omega
  have hk : k % 256 = k := by omega
  have e : cB (n, k, lo, hi, t) ++ r = text8 n ++ ([k] ++ (be8 lo ++ (be8 hi ++ (text8 t ++ r)))) := by simp only [cB, hk, be8s_two, List.append_assoc]
  rw [e]
  exact rdCo_of (rdT_text n hn _) (rdB_one k _) (rdN_be8 lo hw.1 _) (rdN_be8 hi hw.2 _) (rdT_text t ht r)
theorem rdAt_aB (x : At) (hx : okA x = true) (hw : WfA x) (r : List Int) : rdAt (aB x ++ r, false) = (x, (r, false)) := by
  obtain ⟨n, b, m, t⟩ := x
  simp only [okA, Bool.and_eq_true, decide_eq_true_iff] at hx
  have hn : n.size ≤ 255 := by omega
  have ht : t.size ≤ 255 := by omega
  have e : aB (n, b, m, t) ++ r = text8 n ++ ([fl b] ++ (be8 m ++ (text8 t ++ r))) := by simp only [aB, be8s_oneL, List.append_assoc]
  rw [e, rdAt_of (rdT_text n hn _) (rdB_one (fl b) _) (rdN_be8 m hw _) (rdT_text t ht r)]
  cases b <;> rfl
theorem rdMany_of {α : Type} (f : Rs → α × Rs) (enc : α → List Int) : ∀ (xs : List α) (_ : ∀ x ∈ xs, ∀ r, f (enc x ++ r, false) = (x, (r, false))) (r : List Int) (l : List α), rdMany f xs.length (xs.flatMap enc ++ r, false) l = (l ++ xs, (r, false))
  | [], _, r, l => by simp [rdMany]
  | x :: xs, h, r, l => by
    rw [List.length_cons, rdMany_step _ _ _ _ rfl, List.flatMap_cons, List.append_assoc, h x (by simp)]
    rw [rdMany_of f enc xs (fun y hy => h y (by simp [hy])) r (l ++ [x])]
    simp
theorem readD_back (o : OpD) (hr : rightD o = true) (hw : WfD o) (hb : Byt o.r) : readD (oBy o, false) = (o, ([], false)) := by
  obtain ⟨k, c, q, h, a, t, p, s, r⟩ := o
  simp only [rightD, Bool.and_eq_true, decide_eq_true_iff, List.all_eq_true, known] at hr
  obtain ⟨⟨⟨⟨hk, _⟩, hp, hs, hrr⟩, hC⟩, hA⟩ := hr
  have e1 : k % 256 = k := by omega
  have e2 : (p.length : Int) % 256 = p.length := by omega
  have e3 : (s.length : Int) % 256 = s.length := by omega
  have hz : (strOfNums r).size ≤ 255 := by simp [strOfNums, ByteArray.size]; omega
  have e : oBy ⟨k, c, q, h, a, t, p, s, r⟩ = [k] ++ (be8 c ++ (be8 q ++ (be8 h ++ (be8 a ++ (be8 t ++ ([(p.length : Int)] ++ (p.flatMap cB ++ ([(s.length : Int)] ++ (s.flatMap aB ++ (text8 (strOfNums r) ++ [])))))))))) := by
    show opB k c q h a t p s r = _
    simp only [opB, e1, e2, e3, be8s_five, List.append_assoc, List.append_nil]
  rw [e]
  have hP := rdMany_of rdCo cB p (fun x hx r => rdCo_cB x (hC x hx) (hw.p x hx) r)
  have hS := rdMany_of rdAt aB s (fun x hx r => rdAt_aB x (hA x hx) (hw.s x hx) r)
  have := readD_of (rdB_one k _) (rdN_be8 c hw.c _) (rdN_be8 q hw.q _) (rdN_be8 h hw.h _) (rdN_be8 a hw.a _) (rdN_be8 t hw.t _) (rdB_one (p.length : Int) _) (by rw [Int.toNat_natCast]; exact hP _ []) (rdB_one (s.length : Int) _) (by rw [Int.toNat_natCast]; exact hS _ []) (rdT_text (strOfNums r) hz [])
  rw [this]
  simp [bytesOf_strOfNums r hb]
theorem decD_back (o : OpD) (hr : rightD o = true) (hw : WfD o) (hb : Byt o.r) : decD (oBy o) = some o := by
  unfold decD
  rw [readD_back o hr hw hb]
  simp [hr]
theorem decode_ok (A : Option Addr) (c : Nat) (o : OpD) (w : World) (hr : Kd.C (Kd.int .u8) w A (oBy o).length (oBy o)) (hR : rightD o = true) (hw : WfD o) (hb : Byt o.r) :
    Calls Tryd.prog 31 #[.slice A (oBy o).length c] w fun e w' => ∃ x : OpX, x.1 = o ∧ e = .returned (.tuple #[oX x, .nilIface]) ∧ LiesX w' x ∧ PastX w.heap.size x ∧ Below w.heap.size w w' := by
  have hle := oBy_le hR
  refine (decode_calls A c (oBy o) w hr (byt_opB _ _ _ _ _ _ _ _ _) (by omega)).mono ?_
  rintro e w' ⟨h1, _, hB⟩
  obtain ⟨A6, m6, A7, m7, A8, m8, rfl, hL, p6, p7, p8⟩ := h1 o (decD_back o hR hw hb)
  exact ⟨(o, (A6, m6), (A7, m7), (A8, m8)), rfl, rfl, hL, ⟨p6, p7, p8⟩, hB⟩
end Go.Proofs.YtbplemhjhpfkgaaDoor.Cd
