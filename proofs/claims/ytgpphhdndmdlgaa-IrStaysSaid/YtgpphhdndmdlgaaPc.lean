/- Chapter 19: the document: a plain instruction. -/
import Derived.Test.YtgpphhdndmdlgaaPa
import Derived.Test.YtgpphhdndmdlgaaPb
namespace Go.Proofs.Ytgpphhdndmdlgaa
open Go Go.Ev Go.RowKit
set_option linter.unusedVariables false
set_option linter.unusedSimpArgs false
set_option maxRecDepth 100000
namespace Ls
end Ls
end Go.Proofs.Ytgpphhdndmdlgaa
