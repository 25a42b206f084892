/- Chapter 19: instructions in a row; values of code that grows. -/
import Derived.Test.YtgpphhdndmdlgaaKn
import Derived.Test.YtgpphhdndmdlgaaKj
import Derived.Test.YtgpphhdndmdlgaaKk
namespace Go.Proofs.Ytgpphhdndmdlgaa
open Go Go.Ev Go.RowKit
set_option linter.unusedVariables false
set_option linter.unusedSimpArgs false
set_option maxRecDepth 100000
namespace Ls
structure Ms where
 d : List Int
 r : List Int
 fl : Int
 pc : Int
def canM (op : Int) (d r : Nat) : Bool := decide (nD0 op ≤ d) && (decide (nR0 op ≤ r) && (decide (d - nD0 op + nD1 op ≤ 16) && decide (r - nR0 op + nR1 op ≤ 16)))
def tpk (l : List Int) (k : Nat) : Int := l.getD (l.length - k) 0
def lss (l : List Int) (k : Nat) : List Int := l.take (l.length - k)
def doD (op n : Int) (d r : List Int) : List Int :=
 if op = 1 ∨ op = 2 then d ++ [n] else if op = 3 then d ++ [tpk d 1] else if op = 4 then lss d 1 else if op = 5 then lss d 2 ++ [tpk d 1, tpk d 2]
 else if op = 6 then d ++ [tpk d 2] else if op = 7 then lss d 1 else if op = 8 then d ++ [tpk r 1]
 else if op = 25 then lss d 2 else if 16 ≤ op ∧ op ≤ 25 then lss d 2 ++ [doR op (tpk d 2) (tpk d 1)] else if op = 40 then lss d 1 else d
def doRs (op nx : Int) (d r : List Int) : List Int :=
 if op = 7 then r ++ [tpk d 1] else if op = 8 then lss r 1 else if op = 38 then r ++ [nx] else if op = 39 then lss r 1 else r
def doFl (op : Int) (d : List Int) (fl : Int) : Int := if 16 ≤ op ∧ op ≤ 25 then doF op (tpk d 2) (tpk d 1) else fl
def doPc (op n nx : Int) (d r : List Int) (fl : Int) : Int :=
 if op = 39 then tpk r 1 else if op = 40 then tpk d 1 else if op = 32 ∨ op = 38 ∨ hB op fl = true then IntKind.u32.wrap (nx + signZ n) else nx
def doM (op n nx : Int) (s : Ms) : Ms := ⟨doD op n s.d s.r, doRs op nx s.d s.r, doFl op s.d s.fl, doPc op n nx s.d s.r s.fl⟩
def stepM (x : Int × Int) (s : Ms) : Option Ms :=
 if canM x.1 s.d.length s.r.length = true then some (doM x.1 x.2 (IntKind.u32.wrap (s.pc + sizeZ x.1)) s) else none
def runM (l : List (Int × Int)) (s : Ms) : Nat → Option Ms
 | 0 => some s
 | k + 1 => match runM l s k with | some t => (match l[k]? with | some x => stepM x t | none => some t) | none => none
-- values
def valV (c : List II) (d r : List Int) : List Int := evV c d r c.length
@[simp] theorem valV_len (c : List II) (d r : List Int) : (valV c d r).length = c.length := evV_len c d r _
def Pre (V W : List Int) : Prop := ∃ m, W = V ++ m
theorem Pre.getD {V W : List Int} (h : Pre V W) {n : Nat} (hn : n < V.length) : W.getD n 0 = V.getD n 0 := by
 obtain ⟨m, rfl⟩ := h
 rw [List.getD_eq_getElem?_getD, List.getD_eq_getElem?_getD, List.getElem?_append_left hn]
theorem Pre.putL {V W : List Int} (h : Pre V W) (l : List Int) (n : Nat) {out : List Int} (ho : ∀ x ∈ out, 0 ≤ x ∧ x < (V.length : Int)) : putL W l n out = putL V l n out := by
 unfold Ls.putL
 rw [List.map_congr_left fun x hx => h.getD (by have := ho x hx; omega)]
end Ls
end Go.Proofs.Ytgpphhdndmdlgaa
