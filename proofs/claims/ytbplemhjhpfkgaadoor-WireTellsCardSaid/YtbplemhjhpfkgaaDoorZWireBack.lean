/-
 A message's bytes are read back.
-/
import Derived.Test.YtbplemhjhpfkgaaDoorZMsgPure
import Derived.Test.YtbplemhjhpfkgaaDoorZWireDecode
namespace Go.Proofs.YtbplemhjhpfkgaaDoor.Wr
open Go.RowKit YtbplemhjhpfkgaaDoorW.PrintWords YtbplemhjhpfkgaaDoorW.PrintLast YtbplemhjhpfkgaaDoorW.PrintMore Rd
open Go.Proofs.YtbplemhjhpfkgaaDoor.Cd (Co At kCo kAt at_Co at_At)
set_option linter.unusedVariables false
set_option linter.unusedSimpArgs false
theorem digits (n : Int) (h1 : -9223372036854775808 ≤ n) (h2 : n ≤ 9223372036854775807) :
  n = (if n < 0 then -18446744073709551616 else 0) + byteAt n 0 * 72057594037927936 + byteAt n 1 * 281474976710656 + byteAt n 2 * 1099511627776 + byteAt n 3 * 4294967296 + byteAt n 4 * 16777216 + byteAt n 5 * 65536 + byteAt n 6 * 256 + byteAt n 7 := by
 unfold byteAt; simp only [Nat.reduceSub, Nat.reduceMul, Int.reducePow]
 split <;> omega
theorem numOf_be8 (n : Int) (h : InI64 n) : wrap64 (numOf (be8 n)) = n := by
 have d := digits n h.1 h.2
 have e : numOf (be8 n) = byteAt n 0 * 72057594037927936 + byteAt n 1 * 281474976710656 + byteAt n 2 * 1099511627776 + byteAt n 3 * 4294967296 + byteAt n 4 * 16777216 + byteAt n 5 * 65536 + byteAt n 6 * 256 + byteAt n 7 := by
  unfold numOf be8; simp only [List.foldl_cons, List.foldl_nil]; omega
 obtain ⟨h1, h2⟩ := h; rw [e]; unfold wrap64
 split at d <;> omega
theorem rdN_be8 (n : Int) (h : InI64 n) (r : List Int) : rdN (be8 n ++ r, false) = (n, (r, false)) := by
 unfold rdN number1; rw [if_neg (by simp [be8_len])]; rw [show (be8 n ++ r).take 8 = be8 n from List.take_left' rfl, show (be8 n ++ r).drop 8 = r from List.drop_left' rfl, numOf_be8 n h]
theorem rdB_one (b : Int) (r : List Int) : rdB ([b] ++ r, false) = (b, (r, false)) := by simp [rdB, byte1]
theorem strOfNums_bytesOf (s : ByteArray) : strOfNums (bytesOf s) = s := by
 obtain ⟨⟨l⟩⟩ := s; simp only [strOfNums, bytesOf, List.map_map]
 congr 1
 have : ((fun n : Int => UInt8.ofNat n.toNat) ∘ fun b : UInt8 => (b.toNat : Int)) = id := by funext b; simp only [Function.comp, Int.toNat_natCast, UInt8.ofNat_toNat, id]
 simp [this]
theorem rdT_text (s : ByteArray) (h : s.size ≤ 255) (r : List Int) : rdT (text8 s ++ r, false) = (s, (r, false)) := by
 unfold rdT text8 text1; rw [if_neg (by omega)]; have hb : byte1 ((s.size : Int) :: bytesOf s ++ r) false = ((s.size : Int), bytesOf s ++ r, false) := by simp [byte1]
 show (strOfNums (takes (byte1 ((s.size : Int) :: bytesOf s ++ r) false).2.1 (byte1 ((s.size : Int) :: bytesOf s ++ r) false).2.2 (byte1 ((s.size : Int) :: bytesOf s ++ r) false).1).1, _) = _
 rw [hb]; unfold takes; rw [if_neg (by simp only [Bool.false_eq_true, false_or, List.length_append, bytesOf_length]; omega)]; simp only [Bool.false_eq_true, if_false, Int.toNat_natCast]; rw [← bytesOf_length, List.take_left' rfl, List.drop_left' rfl, strOfNums_bytesOf]
theorem be8s_two (x y : Int) : be8s [x, y] = be8 x ++ be8 y := by simp [be8s]
theorem be8s_oneL (x : Int) : be8s [x] = be8 x := by simp [be8s]
theorem rdMany_of {α : Type} (f : Rs → α × Rs) (enc : α → List Int) : ∀ (xs : List α) (_ : ∀ x ∈ xs, ∀ r, f (enc x ++ r, false) = (x, (r, false))) (r : List Int) (l : List α), rdMany f xs.length (xs.flatMap enc ++ r, false) l = (l ++ xs, (r, false))
 | [], _, r, l => by simp [rdMany]
 | x :: xs, h, r, l => by
  rw [List.length_cons, rdMany_step _ _ _ _ rfl, List.flatMap_cons, List.append_assoc, h x (by simp)]; rw [rdMany_of f enc xs (fun y hy => h y (by simp [hy])) r (l ++ [x])]
  simp
theorem empty_of {s : ByteArray} (h : s.toList.isEmpty = true) : s = ⟨#[]⟩ := by
 have h1 : s.toList = [] := List.isEmpty_iff.1 h; rw [ByteArray.toList_eq] at h1; apply ByteArray.ext; exact Array.toList_inj.1 h1
theorem name_size {s : ByteArray} (h : nameOk s = true) : s.size ≤ 12 := by
 unfold nameOk at h; simp only [Bool.and_eq_true, decide_eq_true_iff] at h; omega
theorem rdI_be8 (x y : Int) (hx : InI64 x) (hy : InI64 y) (r : List Int) : rdI (be8 x ++ (be8 y ++ r), false) = ((x, y), (r, false)) := by
 have h1 : number1 (be8 x ++ (be8 y ++ r)) false = (x, be8 y ++ r, false) := rdN_be8 x hx _; have h2 : number1 (be8 y ++ r) false = (y, r, false) := rdN_be8 y hy _; unfold rdI id1; rw [h1]; simp only [h2]; rfl
theorem rdCon_cW (x : Co) (hx : oneOk x = true) (hw : InI64 x.2.2.1 ∧ InI64 x.2.2.2.1) (r : List Int) : rdCon (cW x ++ r, false) = (x, (r, false)) := by
 obtain ⟨n, k, lo, hi, t⟩ := x; unfold oneOk at hx; simp only [Bool.and_eq_true] at hx; obtain ⟨hn, hx⟩ := hx; have hs := name_size hn
 by_cases k1 : k = 1
 ·subst k1; simp only [if_true, Bool.and_eq_true] at hx; obtain rfl := empty_of hx.2; have e : cW (n, 1, lo, hi, ⟨#[]⟩) ++ r = text8 n ++ ([1] ++ (be8 lo ++ (be8 hi ++ r))) := by simp [cW, be8s_two, List.append_assoc]
  rw [e]; exact rdCon_1 (rdT_text n (by omega) _) (rdB_one 1 _) (rdN_be8 lo hw.1 _) (rdN_be8 hi hw.2 _)
 ·have hk : (k = 2 ∨ k = 3) ∧ lo = 0 ∧ hi = 0 ∧ t.size ≤ 12 := by
   by_cases k3 : k = 3
   ·subst k3; simp at hx; refine ⟨.inr rfl, ?_⟩; omega
   ·by_cases k2 : k = 2
    ·subst k2; simp at hx; refine ⟨.inl rfl, ?_⟩; omega
    ·simp [k1, k2, k3] at hx
  obtain ⟨hk2, rfl, rfl, ht⟩ := hk; have hkm : k % 256 = k := by omega
  have e : cW (n, k, 0, 0, t) ++ r = text8 n ++ ([k] ++ (text8 t ++ r)) := by simp [cW, k1, hkm, List.append_assoc]
  rw [e]; exact rdCon_2 (rdT_text n (by omega) _) (rdB_one k _) k1 (rdT_text t (by omega) _)
theorem rdAtt_aW (x : At) (hx : (nameOk x.1 && valOk x.2.1 x.2.2.1 x.2.2.2) = true) (hw : InI64 x.2.2.1) (r : List Int) : rdAtt (aW x ++ r, false) = (x, (r, false)) := by
 obtain ⟨n, b, m, t⟩ := x; simp only [Bool.and_eq_true] at hx; obtain ⟨hn, hx⟩ := hx; have hs := name_size hn; cases b
 ·have hx' : t.toList.isEmpty = true := hx; obtain rfl := empty_of hx'; have e : aW (n, false, m, ⟨#[]⟩) ++ r = text8 n ++ ([0] ++ (be8 m ++ r)) := by simp [aW, be8s_oneL, List.append_assoc]
  rw [e]; exact rdAtt_2 (rdT_text n (by omega) _) (rdB_one 0 _) (by decide) (rdN_be8 m hw _)
 ·have hx' : (decide (m = 0) && decide ((t.size : Int) ≤ 12)) = true := hx; simp only [Bool.and_eq_true, decide_eq_true_iff] at hx'; obtain ⟨rfl, ht⟩ := hx'; have e : aW (n, true, 0, t) ++ r = text8 n ++ ([1] ++ (text8 t ++ r)) := by simp [aW, List.append_assoc]
  rw [e]; exact rdAtt_1 (rdT_text n (by omega) _) (rdB_one 1 _) (rdT_text t (by omega) _)
theorem pred_each {l : List Co} (h : predOk l = true) : ∀ x ∈ l, oneOk x = true := by
 intro x hx; obtain ⟨i, hi⟩ := List.getElem?_of_mem hx; have hl := (List.getElem?_eq_some_iff.1 hi).1; unfold predOk at h; rw [Bool.and_eq_true, List.all_eq_true] at h; have := h.1 i (List.mem_range.2 hl); unfold stepC at this; rw [getC_of hi, Bool.and_eq_true] at this; exact this.1
theorem tup_each {l : List At} (h : tupOk l = true) : ∀ x ∈ l, (nameOk x.1 && valOk x.2.1 x.2.2.1 x.2.2.2) = true := by
 intro x hx; obtain ⟨i, hi⟩ := List.getElem?_of_mem hx; have hl := (List.getElem?_eq_some_iff.1 hi).1; unfold tupOk at h; rw [Bool.and_eq_true, List.all_eq_true] at h; have := h.1 i (List.mem_range.2 hl); unfold stepA at this; rw [getA_of hi, Bool.and_eq_true] at this; exact this.1
structure IsRight (m : MsgD) : Prop where
 k : 1 ≤ m.k ∧ m.k ≤ 5
 t : 0 ≤ m.tc ∧ m.tc < 32 ∧ 0 ≤ m.ts
 p : predOk m.p = true
 s : tupOk m.s = true
 i : asksI m.k = false → m.ic = 0 ∧ m.is = 0
 q : asksP m.k = false → m.p = []
 r : asksS m.k = false → m.s = []
 o : 0 ≤ m.ic ∧ m.ic < 32 ∧ 0 ≤ m.is
theorem isRight {m : MsgD} (h : rightM m = true) : IsRight m := by
 unfold rightM idOk kindOk at h; simp only [Bool.and_eq_true, Bool.or_eq_true, decide_eq_true_iff] at h; obtain ⟨hk, ht, hp, hs, hi, hq, hr, ho⟩ := h; exact ⟨hk, ht, hp, hs, fun e => hi.resolve_left (by rw [e]; decide), fun e => hq.resolve_left (by rw [e]; decide), fun e => hr.resolve_left (by rw [e]; decide), ho⟩
theorem readM_back (m : MsgD) (hr : rightM m = true) (hw : WfM m) (r : List Int) : readM (msgB m ++ r, false) = (m, (r, false)) := by
 obtain ⟨hk, ht, hp, hs, hi, hq, hrr, ho⟩ := isRight hr; obtain ⟨w1, w2, w3, w4⟩ := hw; obtain ⟨k, tc, ts, ic, is, p, s⟩ := m
 simp only at hk ht hp hs hi hq hrr ho w1 w2 w3 w4
 have hlen : p.length ≤ 5 ∧ s.length ≤ 5 := by
  simp only [predOk, tupOk, Bool.and_eq_true, decide_eq_true_iff] at hp hs; omega
 have e1 : k % 256 = k := by omega
 have e2 : (p.length : Int) % 256 = p.length := by omega
 have e3 : (s.length : Int) % 256 = s.length := by omega
 have e : msgB ⟨k, tc, ts, ic, is, p, s⟩ ++ r = [k] ++ (be8 tc ++ (be8 ts ++ (iB k ic is ++ (pB k p ++ (sB k s ++ r))))) := by simp only [msgB, e1, be8s_two, List.append_assoc]
 rw [e]
 have hI : rdOwn k (iB k ic is ++ (pB k p ++ (sB k s ++ r)), false) = ((ic, is), (pB k p ++ (sB k s ++ r), false)) := by
  unfold rdOwn iB; cases hb : asksI k
  ·obtain ⟨rfl, rfl⟩ := hi hb; rfl
  ·rw [if_pos rfl, if_pos rfl, be8s_two, List.append_assoc]; exact rdI_be8 ic is ⟨by omega, by omega⟩ w2 _
 have hP : rdPs k (pB k p ++ (sB k s ++ r), false) = (p, (sB k s ++ r, false)) := by
  unfold rdPs pB; cases hb : asksP k
  ·obtain rfl := hq hb; rfl
  ·rw [if_pos rfl, if_pos rfl, e2, List.append_assoc, rdB_one]; simp only [Int.toNat_natCast]; rw [rdMany_of rdCon cW p (fun x hx r => rdCon_cW x (pred_each hp x hx) (w3 x hx) r)]; rfl
 have hS : rdSs k (sB k s ++ r, false) = (s, (r, false)) := by
  unfold rdSs sB; cases hb : asksS k
  ·obtain rfl := hrr hb; rfl
  ·rw [if_pos rfl, if_pos rfl, e3, List.append_assoc, rdB_one]; simp only [Int.toNat_natCast]; rw [rdMany_of rdAtt aW s (fun x hx r => rdAtt_aW x (tup_each hs x hx) (w4 x hx) r)]; rfl
 exact readM_of (rdB_one k _) (rdI_be8 tc ts ⟨by omega, by omega⟩ w1 _) hI hP hS
theorem decM_back (m : MsgD) (hr : rightM m = true) (hw : WfM m) : decM (msgB m) = some m := by
 have h := readM_back m hr hw []; rw [List.append_nil] at h; unfold decM; rw [h]
 simp [hr]
theorem msgB_inj {m o : MsgD} (h1 : rightM m = true) (w1 : WfM m) (h2 : rightM o = true) (w2 : WfM o) (h : msgB m = msgB o) : m = o := by
 have a := decM_back m h1 w1; have b := decM_back o h2 w2; rw [h, b] at a; exact (Option.some.inj a).symm
end Go.Proofs.YtbplemhjhpfkgaaDoor.Wr
