/- TopStacks' runs 0 0, 4 0, 8 0, 12 0, 16 0, 20 0. -/
import Derived.Test.YthmcpmdohmfeiaaGreatDoorTc
namespace Go.Proofs.YthmcpmdohmfeiaaGreatDoor.Tp
open Go Go.Ev
theorem stacks_run0_0 : lawRun [] [(2, 0, 20, 0)] 13 [.y .i64 2, .f] = tt := by kernel_rfl
theorem stacks_run4_0 : lawRun [] [(2, 0, 20, 4)] 13 [.y .i64 2, .f] = tt := by kernel_rfl
theorem stacks_run8_0 : lawRun [] [(2, 0, 20, 8)] 13 [.y .i64 2, .f] = tt := by kernel_rfl
theorem stacks_run12_0 : lawRun [] [(2, 0, 20, 12)] 13 [.y .i64 2, .f] = tt := by kernel_rfl
theorem stacks_run16_0 : lawRun [] [(2, 0, 20, 16)] 13 [.y .i64 2, .f] = tt := by kernel_rfl
theorem stacks_run20_0 : lawRun [] [(2, 0, 20, 20)] 13 [.y .i64 2, .f] = tt := by kernel_rfl
end Go.Proofs.YthmcpmdohmfeiaaGreatDoor.Tp
