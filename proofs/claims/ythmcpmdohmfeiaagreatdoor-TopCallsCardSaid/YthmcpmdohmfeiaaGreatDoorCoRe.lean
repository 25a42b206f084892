/- TopCalls: runs of eight, translated. -/
import Derived.Test.YthmcpmdohmfeiaaGreatDoorCoA
namespace Go.Proofs.YthmcpmdohmfeiaaGreatDoor
open Go Go.Ev
set_option linter.unusedVariables false
set_option linter.unusedSimpArgs false
set_option maxRecDepth 100000
namespace Tp
noncomputable section
theorem coA_p48 : runP coAG48 coAT13 coAT14 coAX48 = tt := by kernel_rfl
theorem coA_p49 : runP coAG49 coAT14 coAT21 coAX49 = tt := by kernel_rfl
theorem coA_p50 : runP coAG50 coAT21 coAT22 coAX50 = tt := by kernel_rfl
theorem coA_p51 : runP coAG51 coAT22 coAT23 coAX51 = tt := by kernel_rfl
theorem coA_p52 : runP coAG52 coAT13 coAT14 coAX52 = tt := by kernel_rfl
theorem coA_p53 : runP coAG53 coAT14 coAT17 coAX53 = tt := by kernel_rfl
theorem coA_p54 : runP coAG54 coAT17 coAT18 coAX54 = tt := by kernel_rfl
theorem coA_p55 : runP coAG55 coAT18 coAT19 coAX55 = tt := by kernel_rfl
theorem coA_p56 : runP coAG56 coAT14 coAT15 coAX56 = tt := by kernel_rfl
theorem coA_p57 : runP coAG57 coAT15 coAE1 coAX57 = tt := by kernel_rfl
theorem coA_p58 : runP coAG58 coAT15 coAE1 coAX58 = tt := by kernel_rfl
theorem coA_p59 : runP coAG59 coAT15 coAE1 coAX59 = tt := by kernel_rfl
end
end Tp
end Go.Proofs.YthmcpmdohmfeiaaGreatDoor
