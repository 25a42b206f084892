/- TopLoops' run: the sum is not nought. -/
import Derived.Test.YthmcpmdohmfeiaaGreatDoorLoH
namespace Go.Proofs.YthmcpmdohmfeiaaGreatDoor
open Go Go.Ev
set_option linter.unusedVariables false
set_option linter.unusedSimpArgs false
set_option maxRecDepth 100000
namespace Tp
noncomputable section
theorem mul32 {ρ : Nat → Nat} {w w' : W} {a c : Nat} (h : evW ρ w = a) (h' : evW ρ w' = c) : evW ρ [.g .mul .u32 w w' 0 32] = a * c % 4294967296 := by
  simp only [evW, Seg.val, Seg.w]
  rw [h, h']
  show (gZ .mul .u32 a c).toNat / 2 ^ 0 % 2 ^ 32 + 2 ^ 32 * 0 = a * c % 4294967296
  unfold gZ
  simp only [isShift, cond_false, ibin]
  have e : ((a : Int) * (c : Int)) = ((a * c : Nat) : Int) := by simp
  simp [IntKind.wrap, IntKind.signed, IntKind.bits]
  rw [e]
  generalize a * c = z
  omega
theorem mulW {ρ : Nat → Nat} {x b n : Nat} (e0 : ρ 0 = x) (e1 : ρ 1 = b) (hx : x < 4294967296) (hb : b < 4294967296) (hn : n = b % 90) : evW ρ [.g .mul .u32 [.v 0 0 32] [.g .rem .u32 [.v 1 0 32] [.k 90 7] 0 32] 0 32] = x * n % 4294967296 := by
  refine mul32 ?_ ?_
  · simp only [evW, Seg.val, Seg.w, e0]; omega
  · have := rem90 ρ b e1 hb
    simp only [evW, Seg.val, Seg.w] at this ⊢
    rw [this, hn]; omega
def loGM : List Asm := [⟨0, [.v 18 0 8, .v 15 0 8, .v 20 0 8, .v 12 0 8], [.g .mul .u32 [.v 0 0 32] [.g .rem .u32 [.v 1 0 32] [.k 90 7] 0 32] 0 32], true⟩]
theorem loGM_ok {x b n : Nat} (hx : x < 4294967296) (hb : b < 4294967296) (hn : n = b % 90) (hz : sm x n ≠ 0) : ∀ a ∈ loGM, a.ok (loM x b n) := by
  have h := mulW (ρ := loM x b n) (x := x) (b := b) rfl rfl hx hb hn
  rw [← sm_mul] at h
  have hl := sm_lt x n
  refine all2 (asm_eq ?_) all0
  rw [h]
  have e18 : loM x b n 18 = sm x n % 256 := rfl
  have e15 : loM x b n 15 = sm x n / 256 % 256 := rfl
  have e20 : loM x b n 20 = sm x n / 65536 % 256 := rfl
  have e12 : loM x b n 12 = sm x n / 16777216 % 256 := rfl
  simp only [evW, Seg.val, Seg.w, e18, e15, e20, e12]
  clear e18 e15 e20 e12 h hn; omega
theorem lo_runM : ∀ M, lawRunJ M loGM [] loAJM loBJM 10 [wd 0 .u32 32, wd 1 .u32 32] = tt := by
  intro M; kernel_rfl
end
end Tp
end Go.Proofs.YthmcpmdohmfeiaaGreatDoor
