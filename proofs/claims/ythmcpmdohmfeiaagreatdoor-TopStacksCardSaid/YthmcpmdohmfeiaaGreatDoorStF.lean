/- TopStacks' runs 2 1, 6 1, 10 1, 14 1, 18 1. -/
import Derived.Test.YthmcpmdohmfeiaaGreatDoorTc
namespace Go.Proofs.YthmcpmdohmfeiaaGreatDoor.Tp
open Go Go.Ev
theorem stacks_run2_1 : lawRun [] [(2, 0, 20, 2)] 13 [.y .i64 2, .t] = tt := by kernel_rfl
theorem stacks_run6_1 : lawRun [] [(2, 0, 20, 6)] 13 [.y .i64 2, .t] = tt := by kernel_rfl
theorem stacks_run10_1 : lawRun [] [(2, 0, 20, 10)] 13 [.y .i64 2, .t] = tt := by kernel_rfl
theorem stacks_run14_1 : lawRun [] [(2, 0, 20, 14)] 13 [.y .i64 2, .t] = tt := by kernel_rfl
theorem stacks_run18_1 : lawRun [] [(2, 0, 20, 18)] 13 [.y .i64 2, .t] = tt := by kernel_rfl
end Go.Proofs.YthmcpmdohmfeiaaGreatDoor.Tp
