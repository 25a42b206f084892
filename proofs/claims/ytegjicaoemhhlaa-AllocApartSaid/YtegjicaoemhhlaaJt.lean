/- Chapter 21: values that are read by a plan. -/
import Derived.Test.YtegjicaoemhhlaaJs
namespace Go.Proofs.Ytegjicaoemhhlaa
open Go Go.Ev Go.RowKit
set_option linter.unusedVariables false
set_option linter.unusedSimpArgs false
set_option maxRecDepth 100000
namespace Ls
/-- How values are read by a plan. -/
structure GP (V rg sl : List Int) (mh mk : List (Int × Int)) (vm : Nat) : Prop where
  v : V = rdV rg sl mh mk
  m : vm = V.length
  lr : rg.length = vm
  ls : sl.length = vm
theorem GP.of {rg sl : List Int} {mh mk : List (Int × Int)} {vm : Nat} (h : rg.length = vm) (k : sl.length = vm) : GP (rdV rg sl mh mk) rg sl mh mk vm := ⟨rfl, by simp [h], h, k⟩
/-- The two maps, as far as the block is done. -/
def evM (c : List II) (d r rg sl : List Int) : Nat → List (Int × Int) × List (Int × Int)
  | 0 => ([], [])
  | k + 1 => match c[k]? with
    | some x => (stepH rg sl k (mkV d r (rdV rg sl (evM c d r rg sl k).1 (evM c d r rg sl k).2) x) (evM c d r rg sl k).1, stepK rg sl k (mkV d r (rdV rg sl (evM c d r rg sl k).1 (evM c d r rg sl k).2) x) (evM c d r rg sl k).2)
    | none => evM c d r rg sl k
/-- What the values are by a plan. -/
def evW (c : List II) (d r rg sl : List Int) (k : Nat) : List Int := rdV rg sl (evM c d r rg sl k).1 (evM c d r rg sl k).2
@[simp] theorem evW_len (c : List II) (d r rg sl : List Int) (k : Nat) : (evW c d r rg sl k).length = rg.length := by simp [evW]
end Ls
end Go.Proofs.Ytegjicaoemhhlaa
