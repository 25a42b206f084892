/- TopCalls: runs of eight, read. -/
import Derived.Test.YthmcpmdohmfeiaaGreatDoorCoA
namespace Go.Proofs.YthmcpmdohmfeiaaGreatDoor
open Go Go.Ev
set_option linter.unusedVariables false
set_option linter.unusedSimpArgs false
set_option maxRecDepth 100000
namespace Tp
noncomputable section
theorem coB_p12 : runP coBG12 coBT3 coBT6 coBX12 = tt := by kernel_rfl
theorem coB_p13 : runP coBG13 coBT6 coBT7 coBX13 = tt := by kernel_rfl
theorem coB_p14 : runP coBG14 coBT3 coBT4 coBX14 = tt := by kernel_rfl
theorem coB_p15 : runP coBG15 coBT4 coBT24 coBX15 = tt := by kernel_rfl
theorem coB_p16 : runP coBG16 coBT24 coBT25 coBX16 = tt := by kernel_rfl
theorem coB_p17 : runP coBG17 coBT3 coBT4 coBX17 = tt := by kernel_rfl
theorem coB_p18 : runP coBG18 coBT4 coBT5 coBX18 = tt := by kernel_rfl
theorem coB_p19 : runP coBG19 coBT5 coBT6 coBX19 = tt := by kernel_rfl
theorem coB_p20 : runP coBG20 coBT4 coBT9 coBX20 = tt := by kernel_rfl
theorem coB_p21 : runP coBG21 coBT9 coBT20 coBX21 = tt := by kernel_rfl
theorem coB_p22 : runP coBG22 coBT20 coBT6 coBX22 = tt := by kernel_rfl
theorem coB_p23 : runP coBG23 coBT9 coBT10 coBX23 = tt := by kernel_rfl
end
end Tp
end Go.Proofs.YthmcpmdohmfeiaaGreatDoor
