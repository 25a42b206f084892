/- Chapter 20: arguments that come in. -/
import Derived.Test.YtahikechkggbfaaSa
import Derived.Test.YtahikechkggbfaaEve
namespace Go.Proofs.Ytahikechkggbfaa
open Go Go.Ev Go.RowKit Go.ChangeShapes Go.WideShapes Go.ChangeAt
set_option linter.unusedVariables false
set_option linter.unusedSimpArgs false
set_option maxRecDepth 100000
namespace Ls
theorem own : ownKnob Try.prog.godebug = none := by kernel_rfl
theorem laidOut : laidOutB Try.prog = true := by kernel_rfl
end Ls
end Go.Proofs.Ytahikechkggbfaa
