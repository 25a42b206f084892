/- Chapter 21: what fits. -/
import Derived.Test.YtegjicaoemhhlaaJf
import Derived.Test.YtegjicaoemhhlaaJd
namespace Go.Proofs.Ytegjicaoemhhlaa
open Go Go.Ev Go.RowKit
set_option linter.unusedVariables false
set_option linter.unusedSimpArgs false
set_option maxRecDepth 100000
namespace Ls
/-- A word of a stack, from the top. -/
def argD (l : List Int) (k : Nat) : Int := l.getD (l.length - 1 - k) 0
/-- What an operation makes. -/
def mkV (d r V : List Int) (x : II) : Int :=
  if x.1 = 0 then x.2.2.2.2 else if x.1 = 1 then argD d x.2.2.2.2.toNat else if x.1 = 2 then argD r x.2.2.2.2.toNat
  else if x.1 = 3 then doR x.2.2.2.2 (V.getD x.2.2.1.toNat 0) (V.getD x.2.2.2.1.toNat 0) else doF x.2.2.2.2 (V.getD x.2.2.1.toNat 0) (V.getD x.2.2.2.1.toNat 0)
/-- What is made so far. -/
def evV (c : List II) (d r : List Int) : Nat → List Int
  | 0 => List.replicate c.length 0
  | k + 1 => match c[k]? with | some x => (evV c d r k).set k (mkV d r (evV c d r k) x) | none => evV c d r k
@[simp] theorem evV_len (c : List II) (d r : List Int) : ∀ k, (evV c d r k).length = c.length
  | 0 => by simp [evV]
  | k + 1 => by unfold evV; split; (simp [evV_len c d r k]); exact evV_len c d r k
def V32 (V : List Int) : Prop := ∀ x ∈ V, 0 ≤ x ∧ x < 4294967296
end Ls
end Go.Proofs.Ytegjicaoemhhlaa
