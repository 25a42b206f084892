/- TopCalls: runs of eight, read. -/
import Derived.Test.YthmcpmdohmfeiaaGreatDoorCoA
namespace Go.Proofs.YthmcpmdohmfeiaaGreatDoor
open Go Go.Ev
set_option linter.unusedVariables false
set_option linter.unusedSimpArgs false
set_option maxRecDepth 100000
namespace Tp
noncomputable section
theorem coB_p48 : runP coBG48 coBT15 coBE1 coBX48 = tt := by kernel_rfl
theorem coB_p49 : runP coBG49 coBT15 coBE1 coBX49 = tt := by kernel_rfl
theorem coB_p50 : runP coBG50 coBT15 coBE1 coBX50 = tt := by kernel_rfl
end
end Tp
end Go.Proofs.YthmcpmdohmfeiaaGreatDoor
