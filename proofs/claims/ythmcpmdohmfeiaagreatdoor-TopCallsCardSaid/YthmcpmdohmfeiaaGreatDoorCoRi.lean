/- TopCalls: runs of eight, read. -/
import Derived.Test.YthmcpmdohmfeiaaGreatDoorCoA
namespace Go.Proofs.YthmcpmdohmfeiaaGreatDoor
open Go Go.Ev
set_option linter.unusedVariables false
set_option linter.unusedSimpArgs false
set_option maxRecDepth 100000
namespace Tp
noncomputable section
theorem coB_p24 : runP coBG24 coBT10 coBT23 coBX24 = tt := by kernel_rfl
theorem coB_p25 : runP coBG25 coBT23 coBT24 coBX25 = tt := by kernel_rfl
theorem coB_p26 : runP coBG26 coBT9 coBT10 coBX26 = tt := by kernel_rfl
theorem coB_p27 : runP coBG27 coBT10 coBT27 coBX27 = tt := by kernel_rfl
theorem coB_p28 : runP coBG28 coBT27 coBT20 coBX28 = tt := by kernel_rfl
theorem coB_p29 : runP coBG29 coBT10 coBT11 coBX29 = tt := by kernel_rfl
theorem coB_p30 : runP coBG30 coBT11 coBT19 coBX30 = tt := by kernel_rfl
theorem coB_p31 : runP coBG31 coBT19 coBT20 coBX31 = tt := by kernel_rfl
theorem coB_p32 : runP coBG32 coBT11 coBT12 coBX32 = tt := by kernel_rfl
theorem coB_p33 : runP coBG33 coBT12 coBT22 coBX33 = tt := by kernel_rfl
theorem coB_p34 : runP coBG34 coBT22 coBT23 coBX34 = tt := by kernel_rfl
theorem coB_p35 : runP coBG35 coBT11 coBT12 coBX35 = tt := by kernel_rfl
end
end Tp
end Go.Proofs.YthmcpmdohmfeiaaGreatDoor
