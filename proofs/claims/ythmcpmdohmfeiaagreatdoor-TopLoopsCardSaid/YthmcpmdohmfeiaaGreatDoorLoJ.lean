/- TopLoops' run: the sum is nought. -/
import Derived.Test.YthmcpmdohmfeiaaGreatDoorLoI
namespace Go.Proofs.YthmcpmdohmfeiaaGreatDoor
open Go Go.Ev
set_option linter.unusedVariables false
set_option linter.unusedSimpArgs false
set_option maxRecDepth 100000
namespace Tp
noncomputable section
def loGZ : List Asm := [⟨0, [], [.g .mul .u32 [.v 0 0 32] [.g .rem .u32 [.v 1 0 32] [.k 90 7] 0 32] 0 32], true⟩]
theorem loGZ_ok {x b n : Nat} (hx : x < 4294967296) (hb : b < 4294967296) (hn : n = b % 90) (hz : sm x n = 0) : ∀ a ∈ loGZ, a.ok (loZ x b n) := by
  have h := mulW (ρ := loZ x b n) (x := x) (b := b) rfl rfl hx hb hn
  rw [← sm_mul] at h
  have hl := sm_lt x n
  refine all2 (asm_eq ?_) all0
  rw [h]
  rw [hz]; rfl
theorem lo_runZ : ∀ M, lawRunJ M loGZ [] loAJZ loBJZ 10 [wd 0 .u32 32, wd 1 .u32 32] = tt := by
  intro M; kernel_rfl
end
end Tp
end Go.Proofs.YthmcpmdohmfeiaaGreatDoor
