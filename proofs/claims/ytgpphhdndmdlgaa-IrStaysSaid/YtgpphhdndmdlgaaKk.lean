/- Chapter 19: what sweep leaves is right: the plain law. -/
import Derived.Test.YtgpphhdndmdlgaaKj
namespace Go.Proofs.Ytgpphhdndmdlgaa
open Go Go.Ev Go.RowKit
set_option linter.unusedVariables false
set_option linter.unusedSimpArgs false
namespace Ls
structure PI (nd nr : Int) (u : List Bool) (k : Nat) (q : List Int × List II) : Prop where
 code : ∀ (j : Nat) (y : II), q.2[j]? = some y → madeB nd nr y j = true
 imm : ∀ y ∈ q.2, 0 ≤ y.2.2.2.2 ∧ y.2.2.2.2 < 4294967296
 pl : ∀ i : Nat, i < k → u[i]? = some true → ∃ p, q.1[i]? = some p ∧ 0 ≤ p ∧ p < (q.2.length : Int)
end Ls
end Go.Proofs.Ytgpphhdndmdlgaa
