/- TopPaging's runs, the bytes nought, nought. -/
import Derived.Test.YthmcpmdohmfeiaaGreatDoorTc
namespace Go.Proofs.YthmcpmdohmfeiaaGreatDoor.Tp
open Go Go.Ev
theorem paging_run000 : lawRun [] [] 6 [.n .u8 0, .n .u8 0, .f] = tt := by kernel_rfl
theorem paging_run001 : lawRun [] [] 6 [.n .u8 0, .n .u8 0, .t] = tt := by kernel_rfl
end Go.Proofs.YthmcpmdohmfeiaaGreatDoor.Tp
