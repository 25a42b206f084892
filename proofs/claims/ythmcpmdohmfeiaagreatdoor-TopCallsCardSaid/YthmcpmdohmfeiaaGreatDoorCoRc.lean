/- TopCalls: runs of eight, translated. -/
import Derived.Test.YthmcpmdohmfeiaaGreatDoorCoA
namespace Go.Proofs.YthmcpmdohmfeiaaGreatDoor
open Go Go.Ev
set_option linter.unusedVariables false
set_option linter.unusedSimpArgs false
set_option maxRecDepth 100000
namespace Tp
noncomputable section
theorem coA_p24 : runP coAG24 coAT9 coAT32 coAX24 = tt := by kernel_rfl
theorem coA_p25 : runP coAG25 coAT32 coAT6 coAX25 = tt := by kernel_rfl
theorem coA_p26 : runP coAG26 coAT9 coAT10 coAX26 = tt := by kernel_rfl
theorem coA_p27 : runP coAG27 coAT10 coAT31 coAX27 = tt := by kernel_rfl
theorem coA_p28 : runP coAG28 coAT31 coAT24 coAX28 = tt := by kernel_rfl
theorem coA_p29 : runP coAG29 coAT24 coAT25 coAX29 = tt := by kernel_rfl
theorem coA_p30 : runP coAG30 coAT9 coAT10 coAX30 = tt := by kernel_rfl
theorem coA_p31 : runP coAG31 coAT10 coAT30 coAX31 = tt := by kernel_rfl
theorem coA_p32 : runP coAG32 coAT30 coAT20 coAX32 = tt := by kernel_rfl
theorem coA_p33 : runP coAG33 coAT20 coAT6 coAX33 = tt := by kernel_rfl
theorem coA_p34 : runP coAG34 coAT10 coAT11 coAX34 = tt := by kernel_rfl
theorem coA_p35 : runP coAG35 coAT11 coAT29 coAX35 = tt := by kernel_rfl
end
end Tp
end Go.Proofs.YthmcpmdohmfeiaaGreatDoor
