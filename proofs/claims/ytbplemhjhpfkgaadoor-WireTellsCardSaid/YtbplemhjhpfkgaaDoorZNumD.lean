/-
 The writers of package num (Number, Text, ID) and the small functions of broadsidebook that look at bytes and numbers: what each call comes to, over lists.
-/
import Derived.Test.YtbplemhjhpfkgaaDoorZRd
namespace Go.Proofs.YtbplemhjhpfkgaaDoor.Rd
open Go.RowKit YtbplemhjhpfkgaaDoorW.PrintWords YtbplemhjhpfkgaaDoorW.PrintLast YtbplemhjhpfkgaaDoorW.PrintMore
set_option linter.unusedVariables false
set_option linter.unusedSimpArgs false
def byteAt (x : Int) (j : Nat) : Int := (x / 2 ^ (8 * (7 - j))) % 256
def be8 (x : Int) : List Int := [byteAt x 0, byteAt x 1, byteAt x 2, byteAt x 3, byteAt x 4, byteAt x 5, byteAt x 6, byteAt x 7]
theorem be8_len (x : Int) : (be8 x).length = 8 := rfl
theorem be8_take (x : Int) (j : Nat) (h : j < 8) : (be8 x).take (j + 1) = (be8 x).take j ++ [byteAt x j] := by
 have h8 : j = 0 ∨ j = 1 ∨ j = 2 ∨ j = 3 ∨ j = 4 ∨ j = 5 ∨ j = 6 ∨ j = 7 := by omega
 rcases h8 with rfl | rfl | rfl | rfl | rfl | rfl | rfl | rfl <;> rfl
def be8s (xs : List Int) : List Int := xs.flatMap be8
theorem be8s_len (xs : List Int) : (be8s xs).length = 8 * xs.length := by
 unfold be8s
 induction xs with
 | nil => rfl
 | cons x xs ih => simp only [List.flatMap_cons, List.length_append, ih, be8_len, List.length_cons]; omega
theorem be8s_take (xs : List Int) (k : Nat) (h : k < xs.length) : be8s (xs.take (k + 1)) = be8s (xs.take k) ++ be8 (xs.getD k 0) := by
 unfold be8s; rw [List.take_succ_eq_append_getElem h, List.flatMap_append, List.getD_eq_getElem?_getD, List.getElem?_eq_getElem h]
 simp

theorem nums_at {w : World} {A : Option Addr} {n : Nat} {xs : List Int} (h : Kd.C (Kd.int .i64) w A n xs) (i : Nat) (hi : i < n) : ∃ ad, A = some ad ∧ w.cell? (ad.add i) = some (.int .i64 (xs.getD i 0)) := by
 obtain ⟨ad, e, hc⟩ := Kd.at_int h (i : Int) (by omega) (by omega); exact ⟨ad, e, by simpa [rd] using hc⟩

set_option maxHeartbeats 1600000 in
theorem num_calls (A : Option Addr) (c : Nat) (xs : List Int) (w : World) (hr : Kd.C (Kd.int .i64) w A xs.length xs) (hm : xs.length * 8 ≤ 140737488355328) :
  Calls Tryd.prog 66 #[.slice A xs.length c] w fun e w' => ∃ v, e = .returned v ∧ Kd.R (Kd.int .u8) 5 w' w.heap.size (fun _ => True) v (be8s xs) ∧ Below w.heap.size w w' := by
 have HR := sd hr; clear hr
 go_enter Tryd.func66, Tryd.ntmps66
 go_wp2
 go_loopw [3, 9] (fun v i wr => ∃ k : Nat, k ≤ xs.length ∧ i = .int .i64 k ∧ Aside0 (Kd.R (Kd.int .u8) 5 wr w.heap.size (fun _ => True) v (be8s (xs.take k))) ∧ Aside0 (Below w.heap.size w wr)) (fun _ i _ => xs.length - (intOf i).toNat)
 case atStart => exact ⟨0, Nat.zero_le _, rfl, ⟨Kd.R_nil _ _ _ _ _⟩, ⟨Below.refl _ _⟩⟩
 case round =>
  obtain ⟨k, hk, rfl, HO, HB⟩ := hrel
  by_cases hlt : k < xs.length
  ·obtain ⟨ad, rfl, hcell⟩ := nums_at HR.out k hlt; replace hcell := (HB.out.cell (World.block_lt_of_cell? w _ hcell)).trans hcell; obtain ⟨wo, hwo⟩ : ∃ wo : World, wo = wr := ⟨_, rfl⟩; subst hwo; go_wp2
   go_loopw [3, 6] (fun v i w2 => ∃ j : Nat, j ≤ 8 ∧ i = .int .i64 (7 - (j : Int)) ∧ Aside0 (Kd.R (Kd.int .u8) 5 w2 w.heap.size (fun _ => True) v (be8s (xs.take k) ++ (be8 (xs.getD k 0)).take j)) ∧ Aside0 (Below w.heap.size w w2)) (fun _ i _ => (intOf i + 1).toNat)
   case atStart => exact ⟨0, by omega, rfl, ⟨by simpa using HO.out⟩, HB⟩
   case round =>
    obtain ⟨j, hj, rfl, HO2, HB2⟩ := hrel
    by_cases hj8 : j < 8
    ·have hg : xs.getD k 0 = xs[k] := by rw [List.getD_eq_getElem?_getD, List.getElem?_eq_getElem hlt]; rfl
     rw [hg] at HO2; have HG := Lib.hid hg; clear hg
     have hl : (be8s (xs.take k) ++ (be8 xs[k]).take j).length + 1 ≤ 140737488355328 := by
      rw [List.length_append, be8s_len, List.length_take, List.length_take, be8_len]; omega
     have HL := Lib.hid hl; clear hl; go_wp2_with (first | ((with_reducible refine gate_builtin (b := .append) (xs := #[.tmp 17, .tmp 23]) rfl ?_); at_builtin; refine Kd.R_append (Kd.int .u8) (w0 := w) (w.heap.size) rfl (.tmp 17) (.tmp 23) 22 5 (.int .u8 0) 1 rfl Tryd.underlying22 infoU8 rfl (by decide) (by omega) (u3) (be8s (xs.take k) ++ (be8 xs[k]).take j) (xs[k] / 2 ^ (8 * (7 - j)) % 256) [.int .u8 (xs[k] / 2 ^ (8 * (7 - j)) % 256)] (fun _ => True) (fun _ => False) rfl rfl ?aP (fun _ hk => hk.elim) ?aF ?aO ?aB ?aS ?aL ?_; (case aP => exact rfl); (case aB => exact (by repeat (with_reducible first | exact HB2.out | apply below_alloc | apply pw_below_drewN | apply below_drew1))); (case aF => exact (fun _ _ => trivial)); (case aO => exact (by (with_reducible repeat (first | apply Kd.R_alloc | apply Kd.R_drewN | apply Kd.R_drew)); exact HO2.out)); (case aS => exact (below_size (by repeat (with_reducible first | exact HB2.out | apply below_alloc | apply pw_below_drewN | apply below_drew1)))); (case aL => have := HL.out; omega); intro v1 w1 ho hb hg hat; have HO3 := sd ho; have HB3 := sd hb; clear ho hb hg hat))
     go_roundw
     case rel => exact ⟨j + 1, by omega, by go_num, ⟨by rw [HG.out, be8_take _ _ hj8, ← List.append_assoc]; exact HO3.out⟩, HB3⟩
     case measure => simp [intOf]; omega
    ·obtain rfl : j = 8 := by omega
     go_wp2
     go_roundw
     case rel => exact ⟨k + 1, by omega, by go_num, ⟨by rw [be8s_take xs k hlt]; exact HO2.out⟩, HB2⟩
     case measure => simp [intOf]; omega
  ·obtain rfl : k = xs.length := by omega
   have HO1 : Aside0 (Kd.R (Kd.int .u8) 5 wr w.heap.size (fun _ => True) u3 (be8s xs)) := ⟨by have := HO.out; rwa [List.take_length] at this⟩; go_wp2; go_ret; exact ⟨_, rfl, HO1.out, HB.out⟩

set_option maxHeartbeats 1600000 in
theorem same_u8 (A : Option Addr) (c : Nat) (xs : List Int) (B : Option Addr) (d : Nat) (ys : List Int) (w : World) (hx : Kd.C (Kd.int .u8) w A xs.length xs) (hy : Kd.C (Kd.int .u8) w B ys.length ys) :
  Calls Tryd.prog 22 #[.slice A xs.length c, .slice B ys.length d] w fun e w' => e = .returned (.bool (decide (xs = ys))) ∧ Drawn0 w w' := by
 have HX := sd hx; have HY := sd hy; have hmx : xs.length ≤ 9223372036854775807 := hx.2.1; clear hx hy
 by_cases hl : xs.length = ys.length
 ·have hlb : ((xs.length : Int) != (ys.length : Int)) = false := by simp [hl]
  have hlb2 : (xs.length == ys.length) = true := by simp [hl]
  have HL := Lib.hid hl; clear hl
  go_enter Tryd.func22, Tryd.ntmps22
  go_wp2
  go_loopw [5] (fun i wr => ∃ k : Nat, k ≤ xs.length ∧ i = .int .i64 k ∧ Aside0 (xs.take k = ys.take k) ∧ Drawn0 w wr) (fun i _ => xs.length - (intOf i).toNat)
  case atStart => exact ⟨0, Nat.zero_le _, rfl, ⟨by simp⟩, Drawn0.refl _⟩
  case round =>
   obtain ⟨k, hk, rfl, HE, ⟨m, rfl⟩⟩ := hrel
   by_cases hlt : k < xs.length
   ·have hlt2 : k < ys.length := by rw [← HL.out]; exact hlt
    obtain ⟨ad, rfl, hcx⟩ := bytes_at HX.out k hlt; obtain ⟨bd, rfl, hcy⟩ := bytes_at HY.out k hlt2; obtain ⟨x, hgx⟩ : ∃ x : Int, xs.getD k 0 = x := ⟨_, rfl⟩; obtain ⟨y, hgy⟩ : ∃ y : Int, ys.getD k 0 = y := ⟨_, rfl⟩; rw [hgx] at hcx; rw [hgy] at hcy; have hex : xs.take (k + 1) = xs.take k ++ [x] := by rw [List.take_succ_eq_append_getElem hlt, ← hgx, List.getD_eq_getElem?_getD, List.getElem?_eq_getElem hlt]; rfl
    have hey : ys.take (k + 1) = ys.take k ++ [y] := by rw [List.take_succ_eq_append_getElem hlt2, ← hgy, List.getD_eq_getElem?_getD, List.getElem?_eq_getElem hlt2]; rfl
    have HEX := Lib.hid hex; have HEY := Lib.hid hey; clear hgx hgy hex hey
    by_cases hxy : x = y
    ·subst hxy; go_wp2
     repeat (go_quiet (fail); try go_wp2)
     go_roundw
     case rel => exact ⟨k + 1, by omega, by go_num, ⟨by rw [HEX.out, HEY.out, HE.out]⟩, by repeat (first | exact Drawn0.refl _ | apply Drawn0.step)⟩
     case measure => simp [intOf]; omega
    ·have hb1 : (x == y) = false := by simpa using hxy
     have hb2 : (x != y) = true := by simpa using hxy
     have HN := Lib.hid hxy; clear hxy; go_wp2
     repeat (go_quiet (fail); try go_wp2)
     go_ret; refine ⟨?_, by repeat (first | exact Drawn0.refl _ | apply Drawn0.step)⟩
     have hne : ¬ (xs = ys) := fun he => by
      have h1 := HEX.out; rw [he, HEY.out, ← he, HE.out] at h1; have h2 := List.append_cancel_left h1; exact HN.out (by simpa using h2.symm)
     simp [hne]
   ·obtain rfl : k = xs.length := by omega
    go_wp2; go_ret; refine ⟨?_, by repeat (first | exact Drawn0.refl _ | apply Drawn0.step)⟩; have he := HE.out; rw [List.take_length, HL.out, List.take_length] at he
    simp [he]
 ·have hlb : ((xs.length : Int) != (ys.length : Int)) = true := by simp; omega
  have hlb2 : (xs.length == ys.length) = false := by simpa using hl
  have HL := Lib.hid hl; clear hl
  go_enter Tryd.func22, Tryd.ntmps22
  go_wp2; go_ret; have hne : ¬ (xs = ys) := fun he => HL.out (by rw [he])
  exact ⟨by simp [hne], Drawn0.refl _⟩

theorem own_one (w : World) (x : Int) : (w.alloc (.cells #[.int .u8 x] 5)).ownsRow w.heap.size 5 1 (.slice (some ⟨w.heap.size, 0, none⟩) 1 1) [x].length (nums .u8 [x]) := by
 simpa [nums] using World.ownsRow_lit (base := w.heap.size) (e := 5) (size := 1) w #[.int .u8 x] 1 (Nat.le_refl _) (by simp [maxLen]) rfl
theorem C_lit (k : IntKind) (xs : List Int) (w : World) (t : TypeId) (hm : xs.length ≤ 9223372036854775807) : Kd.C (Kd.int k) (w.alloc (.cells (nums k xs).toArray t)) (some ⟨w.heap.size, 0, none⟩) xs.length xs := by
 refine Kd.C_of_reads (d := (0 : Int)) (h1 := fun _ => rfl) ⟨rfl, hm, fun _ => ⟨_, rfl, fun j hj => ?_⟩⟩; rw [add_plain, blk_cell (blk_new w _) j]
 simp [nums, List.getD_eq_getElem?_getD, List.getElem?_eq_getElem hj]
def text8 (s : ByteArray) : List Int := if s.size > 255 then [] else (s.size : Int) :: bytesOf s
set_option maxHeartbeats 800000 in
theorem txt_calls (s : ByteArray) (w : World) :
  Calls Tryd.prog 77 #[.string s] w fun e w' => ∃ v, e = .returned v ∧ Kd.R (Kd.int .u8) 5 w' w.heap.size (fun _ => True) v (text8 s) ∧ Below w.heap.size w w' := by
 by_cases hs : s.size > 255
 ·have HE : Hid (text8 s = []) := Lib.hid (by unfold text8; rw [if_pos hs])
  go_enter Tryd.func77, Tryd.ntmps77
  go_wp2; go_ret; rw [HE.out]; exact ⟨_, rfl, Kd.R_nil _ _ _ _ _, Below.refl _ _⟩
 ·have HE : Hid (text8 s = [(s.size : Int)] ++ bytesOf s) := Lib.hid (by unfold text8; rw [if_neg hs]; rfl); have hs' : s.size ≤ 255 := by omega
  clear hs
  go_enter Tryd.func77, Tryd.ntmps77
  go_wp2_with (first | (at_builtin; refine print_append_str (w0 := w) w.heap.size rfl (.tmp 9) _ 22 9 5 rfl Tryd.underlying22 Tryd.underlying9 infoU8 (.slice (some ⟨w.heap.size, 0, none⟩) 1 1) [(s.size : Int)] s rfl rfl ?aO ?aB ?aS ?aL ?_; (case aO => exact own_one w _); (case aB => exact below_alloc (Below.refl _ _) _); (case aS => simp); (case aL => simp; omega); intro v1 w1 ho hb hg; have HO := sd ho; have HB := sd hb; clear ho hb hg)); go_ret; rw [HE.out]; exact ⟨_, rfl, Kd.R_of_own HO.out (fun _ _ => trivial), HB.out⟩
end Go.Proofs.YtbplemhjhpfkgaaDoor.Rd
