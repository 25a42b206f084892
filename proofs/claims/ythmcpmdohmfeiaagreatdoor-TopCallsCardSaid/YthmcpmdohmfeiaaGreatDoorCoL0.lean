/- TopCalls: what its run takes for granted. -/
import Derived.Test.YthmcpmdohmfeiaaGreatDoorCoS
namespace Go.Proofs.YthmcpmdohmfeiaaGreatDoor
open Go Go.Ev
set_option linter.unusedVariables false
set_option linter.unusedSimpArgs false
set_option maxRecDepth 100000
namespace Tp
noncomputable section
def coLE0 : List Asm := [⟨0, [.v 10 0 4], [.k 1 1], true⟩, ⟨0, [.v 17 0 32], [], true⟩]
def coLE1 : List Asm := [⟨0, [.v 10 0 4], [], true⟩]
end
end Tp
end Go.Proofs.YthmcpmdohmfeiaaGreatDoor
