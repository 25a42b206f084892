/- Chapter 19: the document: plain instructions, second half. -/
import Derived.Test.YtgpphhdndmdlgaaKz
namespace Go.Proofs.Ytgpphhdndmdlgaa
open Go Go.Ev Go.RowKit
set_option linter.unusedVariables false
set_option linter.unusedSimpArgs false
set_option maxRecDepth 100000
namespace Ls
end Ls
end Go.Proofs.Ytgpphhdndmdlgaa
