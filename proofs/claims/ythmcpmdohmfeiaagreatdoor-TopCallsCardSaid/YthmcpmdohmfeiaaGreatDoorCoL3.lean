/- TopCalls's runs. -/
import Derived.Test.YthmcpmdohmfeiaaGreatDoorCoL0
namespace Go.Proofs.YthmcpmdohmfeiaaGreatDoor
open Go Go.Ev
set_option linter.unusedVariables false
set_option linter.unusedSimpArgs false
set_option maxRecDepth 100000
namespace Tp
noncomputable section
theorem co_run11 : ∀ M, lawRunJ M coLE0 [(2, 1, 20, 11)] coAJ11 coBJ11 12 [.y .i64 2, wd 0 .u32 32] = tt := by
  intro M; kernel_rfl
theorem co_run12 : ∀ M, lawRunJ M coLE0 [(2, 1, 20, 12)] coAJ12 coBJ12 12 [.y .i64 2, wd 0 .u32 32] = tt := by
  intro M; kernel_rfl
theorem co_run13 : ∀ M, lawRunJ M coLE0 [(2, 1, 20, 13)] coAJ13 coBJ13 12 [.y .i64 2, wd 0 .u32 32] = tt := by
  intro M; kernel_rfl
theorem co_run14 : ∀ M, lawRunJ M coLE0 [(2, 1, 20, 14)] coAJ14 coBJ14 12 [.y .i64 2, wd 0 .u32 32] = tt := by
  intro M; kernel_rfl
theorem co_run15 : ∀ M, lawRunJ M coLE0 [(2, 1, 20, 15)] coAJ15 coBJ15 12 [.y .i64 2, wd 0 .u32 32] = tt := by
  intro M; kernel_rfl
end
end Tp
end Go.Proofs.YthmcpmdohmfeiaaGreatDoor
