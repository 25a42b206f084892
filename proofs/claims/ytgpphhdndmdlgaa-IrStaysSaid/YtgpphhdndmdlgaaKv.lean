/- Chapter 19: what is lowered stands for a state. -/
import Derived.Test.YtgpphhdndmdlgaaKu
namespace Go.Proofs.Ytgpphhdndmdlgaa
open Go Go.Ev Go.RowKit
set_option linter.unusedVariables false
set_option linter.unusedSimpArgs false
set_option maxRecDepth 100000
namespace Ls
structure Sim (w : LW) (d0 r0 : List Int) (f0 : Int) (d r : List Int) (fl : Int) : Prop where
 d : d = putL (valV w.c d0 r0) d0 w.nd.toNat w.d
 r : r = putL (valV w.c d0 r0) r0 w.nr.toNat w.r
 fl : fl = leftF (valV w.c d0 r0) w.fl f0
 nd : w.nd ≤ (d0.length : Int)
 nr : w.nr ≤ (r0.length : Int)
theorem Pre.leftF {V W : List Int} (h : Pre V W) {fl f0 : Int} (hf : fl = -1 ∨ (0 ≤ fl ∧ fl < (V.length : Int))) : leftF W fl f0 = leftF V fl f0 := by
 unfold Ls.leftF
 rcases hf with rfl | hf
 ·rfl
 ·rw [h.getD (by omega)]
end Ls
end Go.Proofs.Ytgpphhdndmdlgaa
