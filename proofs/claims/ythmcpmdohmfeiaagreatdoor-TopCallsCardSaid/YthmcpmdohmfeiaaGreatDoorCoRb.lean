/- TopCalls: runs of eight, translated. -/
import Derived.Test.YthmcpmdohmfeiaaGreatDoorCoA
namespace Go.Proofs.YthmcpmdohmfeiaaGreatDoor
open Go Go.Ev
set_option linter.unusedVariables false
set_option linter.unusedSimpArgs false
set_option maxRecDepth 100000
namespace Tp
noncomputable section
theorem coA_p12 : runP coAG12 coAT2 coAT3 coAX12 = tt := by kernel_rfl
theorem coA_p13 : runP coAG13 coAT3 coAT34 coAX13 = tt := by kernel_rfl
theorem coA_p14 : runP coAG14 coAT34 coAT7 coAX14 = tt := by kernel_rfl
theorem coA_p15 : runP coAG15 coAT3 coAT4 coAX15 = tt := by kernel_rfl
theorem coA_p16 : runP coAG16 coAT4 coAT33 coAX16 = tt := by kernel_rfl
theorem coA_p17 : runP coAG17 coAT33 coAT25 coAX17 = tt := by kernel_rfl
theorem coA_p18 : runP coAG18 coAT25 coAE0 coAX18 = tt := by kernel_rfl
theorem coA_p19 : runP coAG19 coAT3 coAT4 coAX19 = tt := by kernel_rfl
theorem coA_p20 : runP coAG20 coAT4 coAT5 coAX20 = tt := by kernel_rfl
theorem coA_p21 : runP coAG21 coAT5 coAT6 coAX21 = tt := by kernel_rfl
theorem coA_p22 : runP coAG22 coAT6 coAT7 coAX22 = tt := by kernel_rfl
theorem coA_p23 : runP coAG23 coAT4 coAT9 coAX23 = tt := by kernel_rfl
end
end Tp
end Go.Proofs.YthmcpmdohmfeiaaGreatDoor
