/- TopCalls's runs. -/
import Derived.Test.YthmcpmdohmfeiaaGreatDoorCoL0
namespace Go.Proofs.YthmcpmdohmfeiaaGreatDoor
open Go Go.Ev
set_option linter.unusedVariables false
set_option linter.unusedSimpArgs false
set_option maxRecDepth 100000
namespace Tp
noncomputable section
theorem co_run6 : ∀ M, lawRunJ M coLE0 [(2, 1, 20, 6)] coAJ6 coBJ6 12 [.y .i64 2, wd 0 .u32 32] = tt := by
  intro M; kernel_rfl
theorem co_run7 : ∀ M, lawRunJ M coLE0 [(2, 1, 20, 7)] coAJ7 coBJ7 12 [.y .i64 2, wd 0 .u32 32] = tt := by
  intro M; kernel_rfl
theorem co_run8 : ∀ M, lawRunJ M coLE0 [(2, 1, 20, 8)] coAJ8 coBJ8 12 [.y .i64 2, wd 0 .u32 32] = tt := by
  intro M; kernel_rfl
theorem co_run9 : ∀ M, lawRunJ M coLE0 [(2, 1, 20, 9)] coAJ9 coBJ9 12 [.y .i64 2, wd 0 .u32 32] = tt := by
  intro M; kernel_rfl
theorem co_run10 : ∀ M, lawRunJ M coLE0 [(2, 1, 20, 10)] coAJ10 coBJ10 12 [.y .i64 2, wd 0 .u32 32] = tt := by
  intro M; kernel_rfl
end
end Tp
end Go.Proofs.YthmcpmdohmfeiaaGreatDoor
