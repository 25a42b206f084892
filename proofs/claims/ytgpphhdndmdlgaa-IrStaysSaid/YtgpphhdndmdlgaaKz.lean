/- Chapter 19: the document: an instruction that traps. -/
import Derived.Test.YtgpphhdndmdlgaaKy
import Derived.Test.YtgpphhdndmdlgaaKm
namespace Go.Proofs.Ytgpphhdndmdlgaa
open Go Go.Ev Go.RowKit
set_option linter.unusedVariables false
set_option linter.unusedSimpArgs false
set_option maxRecDepth 100000
namespace Ls
end Ls
end Go.Proofs.Ytgpphhdndmdlgaa
