/- Chapter 19: two blocks and both in one: the plain law. -/
import Derived.Test.YtgpphhdndmdlgaaPk
import Derived.Test.YtgpphhdndmdlgaaKr
namespace Go.Proofs.Ytgpphhdndmdlgaa
open Go Go.Ev Go.RowKit
set_option linter.unusedVariables false
set_option linter.unusedSimpArgs false
set_option maxRecDepth 100000
namespace Ls
end Ls
end Go.Proofs.Ytgpphhdndmdlgaa
