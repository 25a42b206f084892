/- Pieces of a closed call. -/
import Derived.Test.YtahikechkggbfaaNuA
namespace Go.Proofs.Ytahikechkggbfaa
open Go Go.Ev
set_option linter.unusedVariables false
set_option maxRecDepth 100000
namespace Nu
theorem p5 : fpR Try.prog T1 fu 85 rd 5 s0 l5 h5 711 = tt := by kernel_rfl
end Nu
end Go.Proofs.Ytahikechkggbfaa
