/- TopCalls: runs of eight, translated. -/
import Derived.Test.YthmcpmdohmfeiaaGreatDoorCoA
namespace Go.Proofs.YthmcpmdohmfeiaaGreatDoor
open Go Go.Ev
set_option linter.unusedVariables false
set_option linter.unusedSimpArgs false
set_option maxRecDepth 100000
namespace Tp
noncomputable section
theorem coA_p0 : runP coAG0 coAT0 coAT38 coAX0 = tt := by kernel_rfl
theorem coA_p1 : runP coAG1 coAT38 coAE0 coAX1 = tt := by kernel_rfl
theorem coA_p2 : runP coAG2 coAT0 coAT1 coAX2 = tt := by kernel_rfl
theorem coA_p3 : runP coAG3 coAT1 coAT37 coAX3 = tt := by kernel_rfl
theorem coA_p4 : runP coAG4 coAT37 coAE0 coAX4 = tt := by kernel_rfl
theorem coA_p5 : runP coAG5 coAT1 coAT2 coAX5 = tt := by kernel_rfl
theorem coA_p6 : runP coAG6 coAT2 coAT36 coAX6 = tt := by kernel_rfl
theorem coA_p7 : runP coAG7 coAT36 coAE0 coAX7 = tt := by kernel_rfl
theorem coA_p8 : runP coAG8 coAT1 coAT2 coAX8 = tt := by kernel_rfl
theorem coA_p9 : runP coAG9 coAT2 coAT35 coAX9 = tt := by kernel_rfl
theorem coA_p10 : runP coAG10 coAT35 coAT7 coAX10 = tt := by kernel_rfl
theorem coA_p11 : runP coAG11 coAT7 coAE0 coAX11 = tt := by kernel_rfl
end
end Tp
end Go.Proofs.YthmcpmdohmfeiaaGreatDoor
