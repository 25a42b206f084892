/- TopTraps' runs 2 and 3, for any two words. -/
import Derived.Test.YthmcpmdohmfeiaaGreatDoorTc
namespace Go.Proofs.YthmcpmdohmfeiaaGreatDoor.Tp
open Go Go.Ev
theorem traps_run2 : lawRun [] [(2, 0, 7, 2)] 3 [.y .i64 2, wd 0 .u32 32, wd 1 .u32 32] = tt := by kernel_rfl
theorem traps_run3 : lawRun [] [(2, 0, 7, 3)] 3 [.y .i64 2, wd 0 .u32 32, wd 1 .u32 32] = tt := by kernel_rfl
end Go.Proofs.YthmcpmdohmfeiaaGreatDoor.Tp
