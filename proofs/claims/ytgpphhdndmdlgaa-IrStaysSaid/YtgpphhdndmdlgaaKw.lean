/- Chapter 19: one instruction more is lowered. -/
import Derived.Test.YtgpphhdndmdlgaaKv
namespace Go.Proofs.Ytgpphhdndmdlgaa
open Go Go.Ev Go.RowKit
set_option linter.unusedVariables false
set_option linter.unusedSimpArgs false
set_option maxRecDepth 100000
namespace Ls
structure SimT (op : Int) (w w' : LW) (d0 r0 d r : List Int) : Prop where
 tg : (op = 39 → 0 ≤ w'.tg ∧ (valV w'.c d0 r0).getD w'.tg.toNat 0 = tpk r 1) ∧ (op = 40 → 0 ≤ w'.tg ∧ (valV w'.c d0 r0).getD w'.tg.toNat 0 = tpk d 1) ∧ (op ≠ 39 → op ≠ 40 → w'.tg = w.tg)
 br : w'.br = if 33 ≤ op ∧ op ≤ 37 then op else w.br
end Ls
end Go.Proofs.Ytgpphhdndmdlgaa
