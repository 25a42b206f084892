/- TopCalls: runs of eight, read. -/
import Derived.Test.YthmcpmdohmfeiaaGreatDoorCoA
namespace Go.Proofs.YthmcpmdohmfeiaaGreatDoor
open Go Go.Ev
set_option linter.unusedVariables false
set_option linter.unusedSimpArgs false
set_option maxRecDepth 100000
namespace Tp
noncomputable section
theorem coB_p36 : runP coBG36 coBT12 coBT26 coBX36 = tt := by kernel_rfl
theorem coB_p37 : runP coBG37 coBT26 coBT19 coBX37 = tt := by kernel_rfl
theorem coB_p38 : runP coBG38 coBT12 coBT13 coBX38 = tt := by kernel_rfl
theorem coB_p39 : runP coBG39 coBT13 coBT18 coBX39 = tt := by kernel_rfl
theorem coB_p40 : runP coBG40 coBT18 coBT19 coBX40 = tt := by kernel_rfl
theorem coB_p41 : runP coBG41 coBT13 coBT14 coBX41 = tt := by kernel_rfl
theorem coB_p42 : runP coBG42 coBT14 coBT21 coBX42 = tt := by kernel_rfl
theorem coB_p43 : runP coBG43 coBT21 coBT22 coBX43 = tt := by kernel_rfl
theorem coB_p44 : runP coBG44 coBT13 coBT14 coBX44 = tt := by kernel_rfl
theorem coB_p45 : runP coBG45 coBT14 coBT17 coBX45 = tt := by kernel_rfl
theorem coB_p46 : runP coBG46 coBT17 coBT18 coBX46 = tt := by kernel_rfl
theorem coB_p47 : runP coBG47 coBT14 coBT15 coBX47 = tt := by kernel_rfl
end
end Tp
end Go.Proofs.YthmcpmdohmfeiaaGreatDoor
