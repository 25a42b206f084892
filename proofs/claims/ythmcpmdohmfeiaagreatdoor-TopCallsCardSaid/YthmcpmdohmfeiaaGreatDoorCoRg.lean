/- TopCalls: runs of eight, read. -/
import Derived.Test.YthmcpmdohmfeiaaGreatDoorCoA
namespace Go.Proofs.YthmcpmdohmfeiaaGreatDoor
open Go Go.Ev
set_option linter.unusedVariables false
set_option linter.unusedSimpArgs false
set_option maxRecDepth 100000
namespace Tp
noncomputable section
theorem coB_p0 : runP coBG0 coBT0 coBT29 coBX0 = tt := by kernel_rfl
theorem coB_p1 : runP coBG1 coBT29 coBE0 coBX1 = tt := by kernel_rfl
theorem coB_p2 : runP coBG2 coBT0 coBT1 coBX2 = tt := by kernel_rfl
theorem coB_p3 : runP coBG3 coBT1 coBT7 coBX3 = tt := by kernel_rfl
theorem coB_p4 : runP coBG4 coBT7 coBE0 coBX4 = tt := by kernel_rfl
theorem coB_p5 : runP coBG5 coBT1 coBT2 coBX5 = tt := by kernel_rfl
theorem coB_p6 : runP coBG6 coBT2 coBT25 coBX6 = tt := by kernel_rfl
theorem coB_p7 : runP coBG7 coBT25 coBE0 coBX7 = tt := by kernel_rfl
theorem coB_p8 : runP coBG8 coBT1 coBT2 coBX8 = tt := by kernel_rfl
theorem coB_p9 : runP coBG9 coBT2 coBT28 coBX9 = tt := by kernel_rfl
theorem coB_p10 : runP coBG10 coBT28 coBT7 coBX10 = tt := by kernel_rfl
theorem coB_p11 : runP coBG11 coBT2 coBT3 coBX11 = tt := by kernel_rfl
end
end Tp
end Go.Proofs.YthmcpmdohmfeiaaGreatDoor
