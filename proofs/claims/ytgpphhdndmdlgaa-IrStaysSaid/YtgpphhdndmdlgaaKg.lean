/- Chapter 19: values that are not used go. -/
import Derived.Test.YtgpphhdndmdlgaaKf
namespace Go.Proofs.Ytgpphhdndmdlgaa
open Go Go.Ev Go.RowKit
set_option linter.unusedVariables false
set_option linter.unusedSimpArgs false
set_option maxRecDepth 100000
namespace Ls
def mark (u : List Bool) (x : Int) : List Bool := if x = -1 then u else u.set x.toNat true
def outS (u : List Bool) (xs : List Int) : List Bool := xs.foldl mark u
def bkStep (v : List Bool) (i : Nat) (x : II) : List Bool := if v.getD i false = true ∧ (x.1 = 3 ∨ x.1 = 4) then outS v [x.2.2.1, x.2.2.2.1] else v
def bkU (c : List II) (u : List Bool) : Nat → List Bool
 | 0 => u
 | j + 1 => match c[c.length - (j + 1)]? with | some x => bkStep (bkU c u j) (c.length - (j + 1)) x | none => bkU c u j
def plX (P : List Int) (n : Int) (x : II) : II := if x.1 = 3 ∨ x.1 = 4 then (x.1, n, P.getD x.2.2.1.toNat 0, P.getD x.2.2.2.1.toNat 0, x.2.2.2.2) else (x.1, n, x.2.2.1, x.2.2.2.1, x.2.2.2.2)
def plS (c : List II) (u : List Bool) : Nat → List Int × List II
 | 0 => (List.replicate c.length 0, [])
 | k + 1 => match c[k]? with
  | some x => if u.getD k false = true then ((plS c u k).1.set k (((plS c u k).2.length : Nat) : Int), (plS c u k).2 ++ [plX ((plS c u k).1.set k (((plS c u k).2.length : Nat) : Int)) (((plS c u k).2.length : Nat) : Int) x]) else plS c u k
  | none => plS c u k
def movI (P : List Int) (x : Int) : Int := P.getD x.toNat 0
def movL (P : List Int) (l : List Int) : List Int := l.map (movI P)
@[simp] theorem mark_len (u : List Bool) (x : Int) : (mark u x).length = u.length := by unfold mark; split <;> simp
@[simp] theorem outS_len : ∀ (xs : List Int) (u : List Bool), (outS u xs).length = u.length
 | [], u => rfl
 | x :: xs, u => by show (outS (mark u x) xs).length = _; rw [outS_len xs]; simp
@[simp] theorem bkU_len (c : List II) (u : List Bool) : ∀ k, (bkU c u k).length = u.length
 | 0 => rfl
 | k + 1 => by unfold bkU; split; (unfold bkStep; split <;> simp [bkU_len c u k]); exact bkU_len c u k
@[simp] theorem plS_len (c : List II) (u : List Bool) : ∀ k, (plS c u k).1.length = c.length
 | 0 => by simp [plS]
 | k + 1 => by unfold plS; split; (split <;> simp [plS_len c u k]); exact plS_len c u k
@[simp] theorem movL_len (P l : List Int) : (movL P l).length = l.length := by simp [movL]
end Ls
end Go.Proofs.Ytgpphhdndmdlgaa
