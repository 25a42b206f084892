/- TopStacks' runs 0 1, 4 1, 8 1, 12 1, 16 1, 20 1. -/
import Derived.Test.YthmcpmdohmfeiaaGreatDoorTc
namespace Go.Proofs.YthmcpmdohmfeiaaGreatDoor.Tp
open Go Go.Ev
theorem stacks_run0_1 : lawRun [] [(2, 0, 20, 0)] 13 [.y .i64 2, .t] = tt := by kernel_rfl
theorem stacks_run4_1 : lawRun [] [(2, 0, 20, 4)] 13 [.y .i64 2, .t] = tt := by kernel_rfl
theorem stacks_run8_1 : lawRun [] [(2, 0, 20, 8)] 13 [.y .i64 2, .t] = tt := by kernel_rfl
theorem stacks_run12_1 : lawRun [] [(2, 0, 20, 12)] 13 [.y .i64 2, .t] = tt := by kernel_rfl
theorem stacks_run16_1 : lawRun [] [(2, 0, 20, 16)] 13 [.y .i64 2, .t] = tt := by kernel_rfl
theorem stacks_run20_1 : lawRun [] [(2, 0, 20, 20)] 13 [.y .i64 2, .t] = tt := by kernel_rfl
end Go.Proofs.YthmcpmdohmfeiaaGreatDoor.Tp
