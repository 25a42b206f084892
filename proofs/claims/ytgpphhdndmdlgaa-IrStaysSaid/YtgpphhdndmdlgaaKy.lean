/- Chapter 19: what sweep leaves makes the same. -/
import Derived.Test.YtgpphhdndmdlgaaKx
namespace Go.Proofs.Ytgpphhdndmdlgaa
open Go Go.Ev Go.RowKit
set_option linter.unusedVariables false
set_option linter.unusedSimpArgs false
set_option maxRecDepth 100000
namespace Ls
structure PV (c : List II) (d r : List Int) (u : List Bool) (k : Nat) (q : List Int × List II) : Prop where
 pl : ∀ i : Nat, i < k → u[i]? = some true → ∃ p : Nat, q.1[i]? = some (p : Int) ∧ p < q.2.length ∧ (valV q.2 d r).getD p 0 = (valV c d r).getD i 0
end Ls
end Go.Proofs.Ytgpphhdndmdlgaa
