/- Pieces of a closed call. -/
import Derived.Test.YtahikechkggbfaaNuA
namespace Go.Proofs.Ytahikechkggbfaa
open Go Go.Ev
set_option linter.unusedVariables false
set_option maxRecDepth 100000
namespace Nu
theorem p12 : fpR Try.prog T1 fu 85 rd 1 s11 l12 h12 4544 = tt := by kernel_rfl
theorem pz : fpE Try.prog T1 fu 85 rd s12 0 lz hz 4544 = tt := by kernel_rfl
theorem pe : fpEnd Try.prog T1 fu 85 c2 sz Try.f3.results = tt := by kernel_rfl
end Nu
end Go.Proofs.Ytahikechkggbfaa
