/- TopCalls: looks at the state, translated. -/
import Derived.Test.YthmcpmdohmfeiaaGreatDoorCoA
namespace Go.Proofs.YthmcpmdohmfeiaaGreatDoor
open Go Go.Ev
set_option linter.unusedVariables false
set_option linter.unusedSimpArgs false
set_option maxRecDepth 100000
namespace Tp
noncomputable section
theorem coA_lT0 : lookP false coAT0 (idX coAT0V) = tt := by kernel_rfl
theorem coA_lT1 : lookP false coAT1 (idX coAT1V) = tt := by kernel_rfl
theorem coA_lT2 : lookP false coAT2 (idX coAT2V) = tt := by kernel_rfl
theorem coA_lT3 : lookP false coAT3 (idX coAT3V) = tt := by kernel_rfl
theorem coA_lT4 : lookP false coAT4 (idX coAT4V) = tt := by kernel_rfl
theorem coA_lT5 : lookP false coAT5 (idX coAT5V) = tt := by kernel_rfl
theorem coA_lT6 : lookP false coAT6 (idX coAT6V) = tt := by kernel_rfl
theorem coA_lT7 : lookP false coAT7 (idX coAT7V) = tt := by kernel_rfl
theorem coA_lT9 : lookP false coAT9 (idX coAT9V) = tt := by kernel_rfl
theorem coA_lT10 : lookP false coAT10 (idX coAT10V) = tt := by kernel_rfl
theorem coA_lT11 : lookP false coAT11 (idX coAT11V) = tt := by kernel_rfl
theorem coA_lT12 : lookP false coAT12 (idX coAT12V) = tt := by kernel_rfl
theorem coA_lT13 : lookP false coAT13 (idX coAT13V) = tt := by kernel_rfl
theorem coA_lT14 : lookP false coAT14 (idX coAT14V) = tt := by kernel_rfl
theorem coA_lT15 : lookP false coAT15 (idX coAT15V) = tt := by kernel_rfl
theorem coA_lT17 : lookP false coAT17 (idX coAT17V) = tt := by kernel_rfl
theorem coA_lT18 : lookP false coAT18 (idX coAT18V) = tt := by kernel_rfl
theorem coA_lT19 : lookP false coAT19 (idX coAT19V) = tt := by kernel_rfl
theorem coA_lT20 : lookP false coAT20 (idX coAT20V) = tt := by kernel_rfl
theorem coA_lT21 : lookP false coAT21 (idX coAT21V) = tt := by kernel_rfl
theorem coA_lT22 : lookP false coAT22 (idX coAT22V) = tt := by kernel_rfl
theorem coA_lT23 : lookP false coAT23 (idX coAT23V) = tt := by kernel_rfl
theorem coA_lT24 : lookP false coAT24 (idX coAT24V) = tt := by kernel_rfl
theorem coA_lT25 : lookP false coAT25 (idX coAT25V) = tt := by kernel_rfl
theorem coA_lT26 : lookP false coAT26 (idX coAT26V) = tt := by kernel_rfl
theorem coA_lT27 : lookP false coAT27 (idX coAT27V) = tt := by kernel_rfl
theorem coA_lT28 : lookP false coAT28 (idX coAT28V) = tt := by kernel_rfl
theorem coA_lT29 : lookP false coAT29 (idX coAT29V) = tt := by kernel_rfl
theorem coA_lT30 : lookP false coAT30 (idX coAT30V) = tt := by kernel_rfl
theorem coA_lT31 : lookP false coAT31 (idX coAT31V) = tt := by kernel_rfl
theorem coA_lT32 : lookP false coAT32 (idX coAT32V) = tt := by kernel_rfl
theorem coA_lT33 : lookP false coAT33 (idX coAT33V) = tt := by kernel_rfl
theorem coA_lT34 : lookP false coAT34 (idX coAT34V) = tt := by kernel_rfl
theorem coA_lT35 : lookP false coAT35 (idX coAT35V) = tt := by kernel_rfl
theorem coA_lT36 : lookP false coAT36 (idX coAT36V) = tt := by kernel_rfl
theorem coA_lT37 : lookP false coAT37 (idX coAT37V) = tt := by kernel_rfl
theorem coA_lT38 : lookP false coAT38 (idX coAT38V) = tt := by kernel_rfl
theorem coA_lE0 : lookP true coAE0 (idX coAE0V) = tt := by kernel_rfl
theorem coA_lE1 : lookP true coAE1 (idX coAE1V) = tt := by kernel_rfl
end
end Tp
end Go.Proofs.YthmcpmdohmfeiaaGreatDoor
