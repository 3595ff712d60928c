/-
 A message in plain Lean: when it is right.
-/
import Derived.Test.YtbplemhjhpfkgaaDoorZCodeSame
namespace Go.Proofs.YtbplemhjhpfkgaaDoor.Wr
open Go.RowKit YtbplemhjhpfkgaaDoorW.PrintWords YtbplemhjhpfkgaaDoorW.PrintLast YtbplemhjhpfkgaaDoorW.PrintMore Rd
open Go.Proofs.YtbplemhjhpfkgaaDoor.Cd (Co At kCo kAt at_Co at_At)
set_option linter.unusedVariables false
set_option linter.unusedSimpArgs false
structure MsgD where
 k : Int
 tc : Int
 ts : Int
 ic : Int
 is : Int
 p : List Co
 s : List At
deriving DecidableEq
def letter (s : ByteArray) (i : Nat) : Bool := decide (97 ≤ bt s i ∧ bt s i ≤ 122)
def nameOk (s : ByteArray) : Bool := (List.range s.size).all (letter s) && (!s.toList.isEmpty && decide ((s.size : Int) ≤ 12))
def oneOk (x : Co) : Bool :=
 nameOk x.1 && (if x.2.1 = 1 then decide (x.2.2.1 ≤ x.2.2.2.1) && x.2.2.2.2.toList.isEmpty
  else if x.2.1 = 3 then !decide ((x.2.2.2.2.size : Int) = 12) && (decide (x.2.2.1 = 0) && (decide (x.2.2.2.1 = 0) && decide ((x.2.2.2.2.size : Int) ≤ 12)))
  else if x.2.1 = 2 then decide (x.2.2.1 = 0) && (decide (x.2.2.2.1 = 0) && decide ((x.2.2.2.2.size : Int) ≤ 12))
  else false)
def valOk (t : Bool) (n : Int) (x : ByteArray) : Bool := if t = true then decide (n = 0) && decide ((x.size : Int) ≤ 12) else x.toList.isEmpty
def getC (l : List Co) (i : Nat) : Co := l.getD i (⟨#[]⟩, 0, 0, 0, ⟨#[]⟩)
def getA (l : List At) (i : Nat) : At := l.getD i (⟨#[]⟩, false, 0, ⟨#[]⟩)
def stepC (l : List Co) (i : Nat) : Bool := oneOk (getC l i) && (decide (i = 0) || Op.bytesLess (getC l (i - 1)).1.toList (getC l i).1.toList)
def stepA (l : List At) (i : Nat) : Bool := (nameOk (getA l i).1 && valOk (getA l i).2.1 (getA l i).2.2.1 (getA l i).2.2.2) && (decide (i = 0) || Op.bytesLess (getA l (i - 1)).1.toList (getA l i).1.toList)
def predOk (l : List Co) : Bool := (List.range l.length).all (stepC l) && decide ((l.length : Int) ≤ 5)
def tupOk (l : List At) : Bool := (List.range l.length).all (stepA l) && decide ((l.length : Int) ≤ 5)
def idOk (c s : Int) : Bool := decide (0 ≤ c) && (decide (c < 32) && decide (0 ≤ s))
def kindOk (k : Int) : Bool := decide (1 ≤ k ∧ k ≤ 5)
def asksI (k : Int) : Bool := decide (3 ≤ k ∧ k ≤ 5)
def asksP (k : Int) : Bool := decide (k = 1 ∨ k = 3)
def asksS (k : Int) : Bool := decide (k = 5)
def rightM (m : MsgD) : Bool :=
 kindOk m.k && (idOk m.tc m.ts && (predOk m.p && (tupOk m.s && ((asksI m.k || (decide (m.ic = 0) && decide (m.is = 0))) && ((asksP m.k || decide (m.p = [])) && ((asksS m.k || decide (m.s = [])) && idOk m.ic m.is))))))
theorem range_snoc {f : Nat → Bool} {j : Nat} (h : (List.range j).all f = true) (hj : f j = true) : (List.range (j + 1)).all f = true := by
 rw [List.range_succ, List.all_append, h]
 simp [hj]
theorem range_not {f : Nat → Bool} {j n : Nat} (hj : f j = false) (h : j < n) : (List.range n).all f = false := by
 rw [Bool.eq_false_iff]; intro ha; rw [List.all_eq_true] at ha; rw [ha j (List.mem_range.2 h)] at hj; cases hj
theorem getC_of {l : List Co} {i : Nat} {x : Co} (h : l[i]? = some x) : getC l i = x := by
 unfold getC; rw [List.getD_eq_getElem?_getD, h]; rfl
theorem getA_of {l : List At} {i : Nat} {x : At} (h : l[i]? = some x) : getA l i = x := by
 unfold getA; rw [List.getD_eq_getElem?_getD, h]; rfl
def Sm (s : ByteArray) : Prop := s.size ≤ 9223372036854775807
abbrev mW (m : MsgD) (A5 : Option Addr) (m5 : Nat) (A6 : Option Addr) (m6 : Nat) : Value :=
 .agg #[.int .i64 m.k, .int .i64 m.tc, .int .i64 m.ts, .int .i64 m.ic, .int .i64 m.is, .slice A5 m.p.length m5, .slice A6 m.s.length m6]
structure LiesM (w : World) (m : MsgD) (A5 A6 : Option Addr) : Prop where
 p : Kd.C kCo w A5 m.p.length m.p
 s : Kd.C kAt w A6 m.s.length m.s
theorem LiesM.below {w w' : World} {m : MsgD} {A5 A6 : Option Addr} (h : LiesM w m A5 A6) (hb : Below w.heap.size w w') : LiesM w' m A5 A6 :=
 ⟨Kd.C_below h.p hb, Kd.C_below h.s hb⟩
structure SmM (m : MsgD) : Prop where
 p : ∀ x ∈ m.p, Sm x.1
 s : ∀ x ∈ m.s, Sm x.1
end Go.Proofs.YtbplemhjhpfkgaaDoor.Wr
