/- TopTimer: runs of eight, translated. -/
import Derived.Test.YthmcpmdohmfeiaaGreatDoorTiA
namespace Go.Proofs.YthmcpmdohmfeiaaGreatDoor
open Go Go.Ev
set_option linter.unusedVariables false
set_option linter.unusedSimpArgs false
set_option maxRecDepth 100000
namespace Tp
noncomputable section
theorem tiA_e5 : runP tiAGe5 tiAG tiAE tiAXe5 = tt := by kernel_rfl
theorem tiA_e6 : runP tiAGe6 tiAG tiA6 tiAXe6 = tt := by kernel_rfl
theorem tiA_e7 : runP tiAGe7 tiAG tiA7 tiAXe7 = tt := by kernel_rfl
theorem tiA_h6 : runP tiAGh6 tiA6 tiAE tiAXh6 = tt := by kernel_rfl
theorem tiA_h7 : runP tiAGh7 tiA7 tiAE tiAXh7 = tt := by kernel_rfl
theorem tiA_l0 : lookP false tiA0 tiAI0 = tt := by kernel_rfl
theorem tiA_l1 : lookP false tiA1 tiAI1 = tt := by kernel_rfl
theorem tiA_lG : lookP false tiAG tiAIG = tt := by kernel_rfl
theorem tiA_l6 : lookP false tiA6 tiAI6 = tt := by kernel_rfl
theorem tiA_l7 : lookP false tiA7 tiAI7 = tt := by kernel_rfl
theorem tiA_lE : lookP true tiAE tiAIE = tt := by kernel_rfl
end
end Tp
end Go.Proofs.YthmcpmdohmfeiaaGreatDoor
