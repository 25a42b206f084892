/- Chapter 22: which blocks may be. -/
import Derived.Test.YtihacfclecanjaaJc
namespace Go.Proofs.Ytihacfclecanjaa
open Go Go.Ev Go.RowKit
set_option linter.unusedVariables false
set_option linter.unusedSimpArgs false
set_option maxRecDepth 100000
namespace Ls
end Ls
end Go.Proofs.Ytihacfclecanjaa
