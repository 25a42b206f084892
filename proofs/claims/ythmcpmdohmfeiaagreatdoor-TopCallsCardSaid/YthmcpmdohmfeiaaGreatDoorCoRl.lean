/- TopCalls: looks at the state, read. -/
import Derived.Test.YthmcpmdohmfeiaaGreatDoorCoA
namespace Go.Proofs.YthmcpmdohmfeiaaGreatDoor
open Go Go.Ev
set_option linter.unusedVariables false
set_option linter.unusedSimpArgs false
set_option maxRecDepth 100000
namespace Tp
noncomputable section
theorem coB_lT0 : lookP false coBT0 (idX coBT0V) = tt := by kernel_rfl
theorem coB_lT1 : lookP false coBT1 (idX coBT1V) = tt := by kernel_rfl
theorem coB_lT2 : lookP false coBT2 (idX coBT2V) = tt := by kernel_rfl
theorem coB_lT3 : lookP false coBT3 (idX coBT3V) = tt := by kernel_rfl
theorem coB_lT4 : lookP false coBT4 (idX coBT4V) = tt := by kernel_rfl
theorem coB_lT5 : lookP false coBT5 (idX coBT5V) = tt := by kernel_rfl
theorem coB_lT6 : lookP false coBT6 (idX coBT6V) = tt := by kernel_rfl
theorem coB_lT7 : lookP false coBT7 (idX coBT7V) = tt := by kernel_rfl
theorem coB_lT9 : lookP false coBT9 (idX coBT9V) = tt := by kernel_rfl
theorem coB_lT10 : lookP false coBT10 (idX coBT10V) = tt := by kernel_rfl
theorem coB_lT11 : lookP false coBT11 (idX coBT11V) = tt := by kernel_rfl
theorem coB_lT12 : lookP false coBT12 (idX coBT12V) = tt := by kernel_rfl
theorem coB_lT13 : lookP false coBT13 (idX coBT13V) = tt := by kernel_rfl
theorem coB_lT14 : lookP false coBT14 (idX coBT14V) = tt := by kernel_rfl
theorem coB_lT15 : lookP false coBT15 (idX coBT15V) = tt := by kernel_rfl
theorem coB_lT17 : lookP false coBT17 (idX coBT17V) = tt := by kernel_rfl
theorem coB_lT18 : lookP false coBT18 (idX coBT18V) = tt := by kernel_rfl
theorem coB_lT19 : lookP false coBT19 (idX coBT19V) = tt := by kernel_rfl
theorem coB_lT20 : lookP false coBT20 (idX coBT20V) = tt := by kernel_rfl
theorem coB_lT21 : lookP false coBT21 (idX coBT21V) = tt := by kernel_rfl
theorem coB_lT22 : lookP false coBT22 (idX coBT22V) = tt := by kernel_rfl
theorem coB_lT23 : lookP false coBT23 (idX coBT23V) = tt := by kernel_rfl
theorem coB_lT24 : lookP false coBT24 (idX coBT24V) = tt := by kernel_rfl
theorem coB_lT25 : lookP false coBT25 (idX coBT25V) = tt := by kernel_rfl
theorem coB_lT26 : lookP false coBT26 (idX coBT26V) = tt := by kernel_rfl
theorem coB_lT27 : lookP false coBT27 (idX coBT27V) = tt := by kernel_rfl
theorem coB_lT28 : lookP false coBT28 (idX coBT28V) = tt := by kernel_rfl
theorem coB_lT29 : lookP false coBT29 (idX coBT29V) = tt := by kernel_rfl
theorem coB_lE0 : lookP true coBE0 (idX coBE0V) = tt := by kernel_rfl
theorem coB_lE1 : lookP true coBE1 (idX coBE1V) = tt := by kernel_rfl
end
end Tp
end Go.Proofs.YthmcpmdohmfeiaaGreatDoor
