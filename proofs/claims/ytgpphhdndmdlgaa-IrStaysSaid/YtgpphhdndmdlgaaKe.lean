/- Chapter 19: the parts of a block that is lowered. -/
import Derived.Test.YtgpphhdndmdlgaaKc
namespace Go.Proofs.Ytgpphhdndmdlgaa
open Go Go.Ev Go.RowKit
set_option linter.unusedVariables false
set_option linter.unusedSimpArgs false
set_option maxRecDepth 100000
namespace Ls
abbrev IV := Int × Int × Int
def usel (t : Int) (l : List IV) (n : Nat) : List IV := match l[n]? with | some a => l.set n (a.1, a.2.1, max a.2.2 t) | none => l
def useI (t : Int) (l : List IV) (n : Int) : List IV := if 0 ≤ n then usel t l n.toNat else l
def seedl (n : Nat) : List IV := (List.range n).map fun (i : Nat) => ((i : Int), (i : Int), (i : Int))
def codeL (c : List II) : Nat → List IV
 | 0 => seedl c.length
 | k + 1 => match c[k]? with | some x => if x.1 = 3 ∨ x.1 = 4 then useI k (useI k (codeL c k) x.2.2.1) x.2.2.2.1 else codeL c k | none => codeL c k
def outL (t : Int) (l : List IV) (xs : List Int) : List IV := xs.foldl (useI t) l
def ofL (c : List II) (od rd : List Int) (fl tg : Int) : List IV := useI c.length (useI c.length (outL c.length (outL c.length (codeL c c.length) od) rd) fl) tg
@[simp] theorem usel_len (t : Int) (l : List IV) (n : Nat) : (usel t l n).length = l.length := by unfold usel; split <;> simp
@[simp] theorem useI_len (t : Int) (l : List IV) (n : Int) : (useI t l n).length = l.length := by unfold useI; split <;> simp
@[simp] theorem seedl_len (n : Nat) : (seedl n).length = n := by simp [seedl]
@[simp] theorem codeL_len (c : List II) : ∀ k, (codeL c k).length = c.length
 | 0 => by simp [codeL]
 | k + 1 => by unfold codeL; split; (split <;> simp [codeL_len c k]); exact codeL_len c k
@[simp] theorem outL_len (t : Int) : ∀ (xs : List Int) (l : List IV), (outL t l xs).length = l.length
 | [], l => rfl
 | x :: xs, l => by show (outL t (useI t l x) xs).length = _; rw [outL_len t xs]; simp
@[simp] theorem ofL_len (c : List II) (od rd : List Int) (fl tg : Int) : (ofL c od rd fl tg).length = c.length := by simp [ofL]
structure LW where
 c : List II
 d : List Int
 r : List Int
 nd : Int
 hd : Int
 nr : Int
 hr : Int
 fl : Int
 tg : Int
 br : Int
end Ls
end Go.Proofs.Ytgpphhdndmdlgaa
