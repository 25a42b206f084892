/- Chapter 19: the document: an instruction that traps. -/
import Derived.Test.YtgpphhdndmdlgaaKy
import Derived.Test.YtgpphhdndmdlgaaKm
namespace Go.Proofs.Ytgpphhdndmdlgaa
open Go Go.Ev Go.RowKit
set_option linter.unusedVariables false
set_option linter.unusedSimpArgs false
set_option maxRecDepth 100000
namespace Ls
theorem plain_in {op : Int} (h : plainB op = true) : (0 ≤ op ∧ op ≤ 8) ∨ (16 ≤ op ∧ op ≤ 25 ∧ op ≠ 24) ∨ (32 ≤ op ∧ op ≤ 40) := by unfold plainB at h; simp at h; omega
end Ls
end Go.Proofs.Ytgpphhdndmdlgaa
