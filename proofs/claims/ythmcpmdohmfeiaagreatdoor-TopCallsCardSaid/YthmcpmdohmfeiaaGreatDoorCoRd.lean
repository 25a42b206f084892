/- TopCalls: runs of eight, translated. -/
import Derived.Test.YthmcpmdohmfeiaaGreatDoorCoA
namespace Go.Proofs.YthmcpmdohmfeiaaGreatDoor
open Go Go.Ev
set_option linter.unusedVariables false
set_option linter.unusedSimpArgs false
set_option maxRecDepth 100000
namespace Tp
noncomputable section
theorem coA_p36 : runP coAG36 coAT29 coAT20 coAX36 = tt := by kernel_rfl
theorem coA_p37 : runP coAG37 coAT11 coAT12 coAX37 = tt := by kernel_rfl
theorem coA_p38 : runP coAG38 coAT12 coAT28 coAX38 = tt := by kernel_rfl
theorem coA_p39 : runP coAG39 coAT28 coAT23 coAX39 = tt := by kernel_rfl
theorem coA_p40 : runP coAG40 coAT23 coAT24 coAX40 = tt := by kernel_rfl
theorem coA_p41 : runP coAG41 coAT11 coAT12 coAX41 = tt := by kernel_rfl
theorem coA_p42 : runP coAG42 coAT12 coAT27 coAX42 = tt := by kernel_rfl
theorem coA_p43 : runP coAG43 coAT27 coAT19 coAX43 = tt := by kernel_rfl
theorem coA_p44 : runP coAG44 coAT19 coAT20 coAX44 = tt := by kernel_rfl
theorem coA_p45 : runP coAG45 coAT12 coAT13 coAX45 = tt := by kernel_rfl
theorem coA_p46 : runP coAG46 coAT13 coAT26 coAX46 = tt := by kernel_rfl
theorem coA_p47 : runP coAG47 coAT26 coAT19 coAX47 = tt := by kernel_rfl
end
end Tp
end Go.Proofs.YthmcpmdohmfeiaaGreatDoor
