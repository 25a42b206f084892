/- TopStacks' runs 3 1, 7 1, 11 1, 15 1, 19 1. -/
import Derived.Test.YthmcpmdohmfeiaaGreatDoorTc
namespace Go.Proofs.YthmcpmdohmfeiaaGreatDoor.Tp
open Go Go.Ev
theorem stacks_run3_1 : lawRun [] [(2, 0, 20, 3)] 13 [.y .i64 2, .t] = tt := by kernel_rfl
theorem stacks_run7_1 : lawRun [] [(2, 0, 20, 7)] 13 [.y .i64 2, .t] = tt := by kernel_rfl
theorem stacks_run11_1 : lawRun [] [(2, 0, 20, 11)] 13 [.y .i64 2, .t] = tt := by kernel_rfl
theorem stacks_run15_1 : lawRun [] [(2, 0, 20, 15)] 13 [.y .i64 2, .t] = tt := by kernel_rfl
theorem stacks_run19_1 : lawRun [] [(2, 0, 20, 19)] 13 [.y .i64 2, .t] = tt := by kernel_rfl
end Go.Proofs.YthmcpmdohmfeiaaGreatDoor.Tp
