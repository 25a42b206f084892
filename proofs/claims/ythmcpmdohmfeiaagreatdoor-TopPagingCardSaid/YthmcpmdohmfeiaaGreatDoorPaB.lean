/- TopPaging's runs, the bytes nought, not nought. -/
import Derived.Test.YthmcpmdohmfeiaaGreatDoorTc
namespace Go.Proofs.YthmcpmdohmfeiaaGreatDoor.Tp
open Go Go.Ev
theorem paging_run010 : lawRun [⟨0, [.v 1 0 8], [], false⟩] [] 6 [.n .u8 0, wd 1 .u8 8, .f] = tt := by kernel_rfl
theorem paging_run011 : lawRun [⟨0, [.v 1 0 8], [], false⟩] [] 6 [.n .u8 0, wd 1 .u8 8, .t] = tt := by kernel_rfl
end Go.Proofs.YthmcpmdohmfeiaaGreatDoor.Tp
