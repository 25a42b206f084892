/- Chapter 21: the document's pressure. -/
import Derived.Test.YtegjicaoemhhlaaJr
namespace Go.Proofs.Ytegjicaoemhhlaa
open Go Go.Ev Go.RowKit
set_option linter.unusedVariables false
set_option linter.unusedSimpArgs false
set_option maxRecDepth 100000
namespace Ls
end Ls
end Go.Proofs.Ytegjicaoemhhlaa
