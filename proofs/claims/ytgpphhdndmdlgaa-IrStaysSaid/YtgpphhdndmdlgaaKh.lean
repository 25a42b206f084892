/- Chapter 19: a block is lowered. -/
import Derived.Test.YtgpphhdndmdlgaaKg
namespace Go.Proofs.Ytgpphhdndmdlgaa
open Go Go.Ev Go.RowKit
set_option linter.unusedVariables false
set_option linter.unusedSimpArgs false
set_option maxRecDepth 100000
namespace Ls
structure OkIns (l : List (Int × Int)) : Prop where
 one : 1 ≤ l.length
 most : l.length ≤ 8
 ok : ∀ (k : Nat) (x : Int × Int), l[k]? = some x → rightI x.1 x.2 = true ∧ plainB x.1 = true ∧ (k + 1 < l.length → endsB x.1 = false)
structure LwB (w : LW) : Prop where
 c : w.c.length < 1000
 d : w.d.length < 1000
 r : w.r.length < 1000
 nd : 0 ≤ w.nd ∧ w.nd < 1000
 nr : 0 ≤ w.nr ∧ w.nr < 1000
end Ls
end Go.Proofs.Ytgpphhdndmdlgaa
