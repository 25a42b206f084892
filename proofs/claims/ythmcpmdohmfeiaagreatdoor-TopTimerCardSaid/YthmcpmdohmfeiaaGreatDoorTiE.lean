/- TopTimer: runs of eight, read. -/
import Derived.Test.YthmcpmdohmfeiaaGreatDoorTiA
namespace Go.Proofs.YthmcpmdohmfeiaaGreatDoor
open Go Go.Ev
set_option linter.unusedVariables false
set_option linter.unusedSimpArgs false
set_option maxRecDepth 100000
namespace Tp
noncomputable section
theorem tiB_p0 : runP tiBGp0 tiB0 tiB1 tiBXp0 = tt := by kernel_rfl
theorem tiB_p1 : runP tiBGp1 tiB1 tiBG tiBXp1 = tt := by kernel_rfl
theorem tiB_pg : runP tiBGpg tiBG tiBG tiBXpg = tt := by kernel_rfl
theorem tiB_e0 : runP tiBGe0 tiBG tiBE tiBXe0 = tt := by kernel_rfl
theorem tiB_e1 : runP tiBGe1 tiBG tiBE tiBXe1 = tt := by kernel_rfl
theorem tiB_e2 : runP tiBGe2 tiBG tiBE tiBXe2 = tt := by kernel_rfl
theorem tiB_e3 : runP tiBGe3 tiBG tiBE tiBXe3 = tt := by kernel_rfl
theorem tiB_e4 : runP tiBGe4 tiBG tiBE tiBXe4 = tt := by kernel_rfl
theorem tiB_e5 : runP tiBGe5 tiBG tiBE tiBXe5 = tt := by kernel_rfl
theorem tiB_e6 : runP tiBGe6 tiBG tiB6 tiBXe6 = tt := by kernel_rfl
theorem tiB_e7 : runP tiBGe7 tiBG tiB7 tiBXe7 = tt := by kernel_rfl
theorem tiB_h6 : runP tiBGh6 tiB6 tiBE tiBXh6 = tt := by kernel_rfl
theorem tiB_h7 : runP tiBGh7 tiB7 tiBE tiBXh7 = tt := by kernel_rfl
theorem tiB_l0 : lookP false tiB0 tiBI0 = tt := by kernel_rfl
theorem tiB_l1 : lookP false tiB1 tiBI1 = tt := by kernel_rfl
theorem tiB_lG : lookP false tiBG tiBIG = tt := by kernel_rfl
theorem tiB_l6 : lookP false tiB6 tiBI6 = tt := by kernel_rfl
theorem tiB_l7 : lookP false tiB7 tiBI7 = tt := by kernel_rfl
theorem tiB_lE : lookP true tiBE tiBIE = tt := by kernel_rfl
end
end Tp
end Go.Proofs.YthmcpmdohmfeiaaGreatDoor
