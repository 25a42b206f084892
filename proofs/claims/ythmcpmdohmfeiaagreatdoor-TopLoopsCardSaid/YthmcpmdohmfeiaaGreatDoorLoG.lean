/- TopLoops: what becomes of a guest, for any two numbers. -/
import Derived.Test.YthmcpmdohmfeiaaGreatDoorLoB
import Derived.Test.YthmcpmdohmfeiaaGreatDoorLoC
import Derived.Test.YthmcpmdohmfeiaaGreatDoorLoD
import Derived.Test.YthmcpmdohmfeiaaGreatDoorLoE
import Derived.Test.YthmcpmdohmfeiaaGreatDoorLoF
namespace Go.Proofs.YthmcpmdohmfeiaaGreatDoor
open Go Go.Ev
set_option linter.unusedVariables false
set_option linter.unusedSimpArgs false
set_option maxRecDepth 100000
namespace Tp
noncomputable section
theorem rem90 (ρ : Nat → Nat) (b : Nat) (e : ρ 1 = b) (hb : b < 4294967296) : (gZ .rem .u32 (evW ρ [.v 1 0 32]) (evW ρ [.k 90 7])).toNat = b % 90 := by
  have h1 : evW ρ [.v 1 0 32] = b := by simp only [evW, Seg.val, Seg.w, e]; omega
  have h2 : evW ρ [.k 90 7] = 90 := by simp only [evW, Seg.val, Seg.w]
  rw [h1, h2]
  unfold gZ
  simp only [isShift, cond_false, ibin]
  rfl
theorem sub1_32 {ρ : Nat → Nat} {w : W} {a : Nat} (h : evW ρ w = a) (h1 : 1 ≤ a) (h2 : a < 4294967296) : evW ρ [.g .sub .u32 w [.k 1 1] 0 32] = a - 1 := by
  simp only [evW, Seg.val, Seg.w]
  rw [h]
  show (gZ .sub .u32 a 1).toNat / 2 ^ 0 % 2 ^ 32 + 2 ^ 32 * 0 = a - 1
  unfold gZ
  simp only [isShift, cond_false, ibin]
  simp [IntKind.wrap, IntKind.signed, IntKind.bits]
  omega
theorem sub1_64 {ρ : Nat → Nat} {w : W} {a : Nat} (h : evW ρ w = a) (h1 : 1 ≤ a) (h2 : a < 4294967296) : evW ρ [.g .sub .u64 w [.k 1 1] 0 32] = a - 1 := by
  simp only [evW, Seg.val, Seg.w]
  rw [h]
  show (gZ .sub .u64 a 1).toNat / 2 ^ 0 % 2 ^ 32 + 2 ^ 32 * 0 = a - 1
  unfold gZ
  simp only [isShift, cond_false, ibin]
  simp [IntKind.wrap, IntKind.signed, IntKind.bits]
  omega
theorem flz {ρ : Nat → Nat} {w : W} (h : evW ρ w = 0) : evW ρ [.k 1 1, .g .sub .u64 [] w 63 1] = 1 := by
  simp only [evW, Seg.val, Seg.w] at h ⊢
  rw [h]
  have : gZ .sub .u64 0 0 = 0 := by decide
  rw [this]
  rfl
def totW : W → Nat
  | [] => 0
  | s :: r => s.w + totW r
theorem seg_lt (ρ : Nat → Nat) (s : Seg) : s.val ρ < 2 ^ s.w := by
  cases s <;> exact Nat.mod_lt _ (Nat.pow_pos (by decide))
theorem evW_tot (ρ : Nat → Nat) : ∀ w : W, evW ρ w < 2 ^ totW w
  | [] => by simp only [evW]; exact Nat.pow_pos (by decide)
  | s :: r => by
    have h1 := seg_lt ρ s
    have h2 := evW_tot ρ r
    simp only [evW, totW, Nat.pow_add]
    generalize 2 ^ s.w = A at *
    generalize 2 ^ totW r = B at *
    generalize s.val ρ = u at *
    generalize evW ρ r = v at *
    have : A * (v + 1) ≤ A * B := Nat.mul_le_mul (Nat.le_refl _) h2
    rw [Nat.mul_add] at this
    omega
theorem fl16 {ρ : Nat → Nat} {w : W} (h : totW w ≤ 4) : evW ρ w < 16 := Nat.lt_of_lt_of_le (evW_tot ρ w) (Nat.pow_le_pow_right (by decide) h)
def loM (x b n : Nat) : Nat → Nat := rl [x, b, 0, 0, 0, 0, 0, 0, 0, 0, 1, n / 256 % 256, sm x n / 16777216 % 256, x % 256, n / 16777216 % 256, sm x n / 256 % 256, x / 65536 % 256, n / 65536 % 256, sm x n % 256, x / 256 % 256, sm x n / 65536 % 256, n % 256, x / 16777216 % 256, 0, 0, 0, 0, 0, 0, 0, 11 * n + 10]
def loZ (x b n : Nat) : Nat → Nat := rl [x, b, 0, 0, 0, 0, 0, 0, 0, 0, 1, n / 256 % 256, x % 256, n / 16777216 % 256, x / 65536 % 256, n / 65536 % 256, x / 256 % 256, n % 256, x / 16777216 % 256, 0, 0, 0, 0, 0, 0, 0, 0, 0, 0, 0, 11 * n + 10]
def loAr (x b : Nat) : Nat → Nat → Nat
  | 0 => valS (rl [x, b]) loAXs
  | i + 1 => valS (loAr x b i) (match i with | 0 => loAXp0 | 1 => loAXp1 | _ + 2 => loAXpg)
def loASt (x b : Nat) : Nat → Heap
  | 0 => tbH loA0 (loAr x b 0)
  | 1 => tbH loA1 (loAr x b 1)
  | i + 2 => tbH loAG (loAr x b (i + 2))
theorem loA_s {x b n : Nat} (hx : x < 4294967296) (hb : b < 4294967296) (hn : n = b % 90) : loAr x b 0 0 = n / 256 % 256 ∧ loAr x b 0 1 = x % 256 ∧ loAr x b 0 2 = n / 16777216 % 256 ∧ loAr x b 0 3 = x / 65536 % 256 ∧ loAr x b 0 4 = n / 65536 % 256 ∧ loAr x b 0 5 = x / 256 % 256 ∧ loAr x b 0 6 = n % 256 ∧ loAr x b 0 7 = x / 16777216 % 256 := by
  have h := rem90 (rl [x, b]) b rfl hb
  have hx0 : rl [x, b] 0 = x := rfl
  refine ⟨?_, ?_, ?_, ?_, ?_, ?_, ?_, ?_⟩
  · show evW (rl [x, b]) [.g .rem .u32 [.v 1 0 32] [.k 90 7] 8 8] = _
    simp only [evW, Seg.val, Seg.w, hx0] at h ⊢
    rw [h] <;> omega
  · show evW (rl [x, b]) [.v 0 0 8] = _
    simp only [evW, Seg.val, Seg.w, hx0] at h ⊢
    omega
  · show evW (rl [x, b]) [.g .rem .u32 [.v 1 0 32] [.k 90 7] 24 8] = _
    simp only [evW, Seg.val, Seg.w, hx0] at h ⊢
    rw [h] <;> omega
  · show evW (rl [x, b]) [.v 0 16 8] = _
    simp only [evW, Seg.val, Seg.w, hx0] at h ⊢
    omega
  · show evW (rl [x, b]) [.g .rem .u32 [.v 1 0 32] [.k 90 7] 16 8] = _
    simp only [evW, Seg.val, Seg.w, hx0] at h ⊢
    rw [h] <;> omega
  · show evW (rl [x, b]) [.v 0 8 8] = _
    simp only [evW, Seg.val, Seg.w, hx0] at h ⊢
    omega
  · show evW (rl [x, b]) [.g .rem .u32 [.v 1 0 32] [.k 90 7] 0 8] = _
    simp only [evW, Seg.val, Seg.w, hx0] at h ⊢
    rw [h] <;> omega
  · show evW (rl [x, b]) [.v 0 24 8] = _
    simp only [evW, Seg.val, Seg.w, hx0] at h ⊢
    omega
theorem loA_i1 {x b n : Nat} (hx : x < 4294967296) (hb : b < 4294967296) (hn : n = b % 90) (h1 : 1 ≤ n) : loAr x b 1 0 < 16 ∧ loAr x b 1 1 = n / 256 % 256 ∧ loAr x b 1 2 = x % 256 ∧ loAr x b 1 3 = n / 16777216 % 256 ∧ loAr x b 1 4 = x / 65536 % 256 ∧ loAr x b 1 5 = n / 65536 % 256 ∧ loAr x b 1 6 = x / 256 % 256 ∧ loAr x b 1 7 = n % 256 ∧ loAr x b 1 8 = x / 16777216 % 256 ∧ loAr x b 1 9 = sm x (1) ∧ loAr x b 1 10 = n - (1) := by
  obtain ⟨e0, e1, e2, e3, e4, e5, e6, e7⟩ := loA_s hx hb hn
  have hN : evW (loAr x b 0) [.v 6 0 8, .v 0 0 8, .v 4 0 8, .v 2 0 8] = n := by simp only [evW, Seg.val, Seg.w, e0, e1, e2, e3, e4, e5, e6, e7] <;> (clear e0 e1 e2 e3 e4 e5 e6 e7; omega)
  have hs : sm x 1 = (0 + x) % 4294967296 := rfl
  refine ⟨?_, ?_, ?_, ?_, ?_, ?_, ?_, ?_, ?_, ?_, ?_⟩
  · show evW (loAr x b 0) [.g .sub .u64 [.v 1 0 8, .v 5 0 8, .v 3 0 8, .v 7 0 8] [.k 1 1] 63 1, .v 7 7 1] < 16
    exact fl16 (by decide)
  · show evW (loAr x b 0) [.v 0 0 8] = _
    simp only [evW, Seg.val, Seg.w, e0, e1, e2, e3, e4, e5, e6, e7] <;> (clear e0 e1 e2 e3 e4 e5 e6 e7; omega)
  · show evW (loAr x b 0) [.v 1 0 8] = _
    simp only [evW, Seg.val, Seg.w, e0, e1, e2, e3, e4, e5, e6, e7] <;> (clear e0 e1 e2 e3 e4 e5 e6 e7; omega)
  · show evW (loAr x b 0) [.v 2 0 8] = _
    simp only [evW, Seg.val, Seg.w, e0, e1, e2, e3, e4, e5, e6, e7] <;> (clear e0 e1 e2 e3 e4 e5 e6 e7; omega)
  · show evW (loAr x b 0) [.v 3 0 8] = _
    simp only [evW, Seg.val, Seg.w, e0, e1, e2, e3, e4, e5, e6, e7] <;> (clear e0 e1 e2 e3 e4 e5 e6 e7; omega)
  · show evW (loAr x b 0) [.v 4 0 8] = _
    simp only [evW, Seg.val, Seg.w, e0, e1, e2, e3, e4, e5, e6, e7] <;> (clear e0 e1 e2 e3 e4 e5 e6 e7; omega)
  · show evW (loAr x b 0) [.v 5 0 8] = _
    simp only [evW, Seg.val, Seg.w, e0, e1, e2, e3, e4, e5, e6, e7] <;> (clear e0 e1 e2 e3 e4 e5 e6 e7; omega)
  · show evW (loAr x b 0) [.v 6 0 8] = _
    simp only [evW, Seg.val, Seg.w, e0, e1, e2, e3, e4, e5, e6, e7] <;> (clear e0 e1 e2 e3 e4 e5 e6 e7; omega)
  · show evW (loAr x b 0) [.v 7 0 8] = _
    simp only [evW, Seg.val, Seg.w, e0, e1, e2, e3, e4, e5, e6, e7] <;> (clear e0 e1 e2 e3 e4 e5 e6 e7; omega)
  · show evW (loAr x b 0) [.v 1 0 8, .v 5 0 8, .v 3 0 8, .v 7 0 8] = _
    rw [hs]; simp only [evW, Seg.val, Seg.w, e0, e1, e2, e3, e4, e5, e6, e7] <;> (clear e0 e1 e2 e3 e4 e5 e6 e7; omega)
  · show evW (loAr x b 0) [.g .sub .u64 [.v 6 0 8, .v 0 0 8, .v 4 0 8, .v 2 0 8] [.k 1 1] 0 32] = _
    rw [sub1_64 hN (by omega) (by omega)]
theorem loA_i2 {x b n : Nat} (hx : x < 4294967296) (hb : b < 4294967296) (hn : n = b % 90) (h1 : 2 ≤ n) : loAr x b 2 0 < 16 ∧ loAr x b 2 1 = n / 256 % 256 ∧ loAr x b 2 2 = x % 256 ∧ loAr x b 2 3 = n / 16777216 % 256 ∧ loAr x b 2 4 = x / 65536 % 256 ∧ loAr x b 2 5 = n / 65536 % 256 ∧ loAr x b 2 6 = x / 256 % 256 ∧ loAr x b 2 7 = n % 256 ∧ loAr x b 2 8 = x / 16777216 % 256 ∧ loAr x b 2 9 = sm x (2) ∧ loAr x b 2 10 = n - (2) ∧ loAr x b 2 11 = 11 * (2) + 2 ∧ loAr x b 2 12 = 11 * (2) + 2 := by
  obtain ⟨e0, e1, e2, e3, e4, e5, e6, e7, e8, e9, e10⟩ := loA_i1 hx hb hn (by omega)
  have hl := sm_lt x 1
  have hK : evW (loAr x b 1) [.v 10 0 32] = n - 1 := by simp only [evW, Seg.val, Seg.w, e1, e2, e3, e4, e5, e6, e7, e8, e9, e10] <;> (clear e1 e2 e3 e4 e5 e6 e7 e8 e9 e10; omega)
  have hs : sm x 2 = (sm x 1 + x) % 4294967296 := rfl
  refine ⟨?_, ?_, ?_, ?_, ?_, ?_, ?_, ?_, ?_, ?_, ?_, ?_, ?_⟩
  · show evW (loAr x b 1) [.g .sub .u64 [.p [.v 9 0 32] [.v 2 0 8, .v 6 0 8, .v 4 0 8, .v 8 0 8] 0 32] [.k 1 1] 63 1, .p [.v 9 0 32] [.v 2 0 8, .v 6 0 8, .v 4 0 8, .v 8 0 8] 31 1, .g .sub .u64 [.p [.v 9 0 32] [.v 2 0 8, .v 6 0 8, .v 4 0 8, .v 8 0 8] 0 32] [.v 9 0 32] 63 1, .g .and .u64 [.g .xor .u64 [.v 9 0 32] [.p [.v 9 0 32] [.v 2 0 8, .v 6 0 8, .v 4 0 8, .v 8 0 8] 0 32] 0 64] [.g .xor .u64 [.v 2 0 8, .v 6 0 8, .v 4 0 8, .v 8 0 8] [.p [.v 9 0 32] [.v 2 0 8, .v 6 0 8, .v 4 0 8, .v 8 0 8] 0 32] 0 64] 31 1] < 16
    exact fl16 (by decide)
  · show evW (loAr x b 1) [.v 1 0 8] = _
    simp only [evW, Seg.val, Seg.w, e1, e2, e3, e4, e5, e6, e7, e8, e9, e10] <;> (clear e1 e2 e3 e4 e5 e6 e7 e8 e9 e10; omega)
  · show evW (loAr x b 1) [.v 2 0 8] = _
    simp only [evW, Seg.val, Seg.w, e1, e2, e3, e4, e5, e6, e7, e8, e9, e10] <;> (clear e1 e2 e3 e4 e5 e6 e7 e8 e9 e10; omega)
  · show evW (loAr x b 1) [.v 3 0 8] = _
    simp only [evW, Seg.val, Seg.w, e1, e2, e3, e4, e5, e6, e7, e8, e9, e10] <;> (clear e1 e2 e3 e4 e5 e6 e7 e8 e9 e10; omega)
  · show evW (loAr x b 1) [.v 4 0 8] = _
    simp only [evW, Seg.val, Seg.w, e1, e2, e3, e4, e5, e6, e7, e8, e9, e10] <;> (clear e1 e2 e3 e4 e5 e6 e7 e8 e9 e10; omega)
  · show evW (loAr x b 1) [.v 5 0 8] = _
    simp only [evW, Seg.val, Seg.w, e1, e2, e3, e4, e5, e6, e7, e8, e9, e10] <;> (clear e1 e2 e3 e4 e5 e6 e7 e8 e9 e10; omega)
  · show evW (loAr x b 1) [.v 6 0 8] = _
    simp only [evW, Seg.val, Seg.w, e1, e2, e3, e4, e5, e6, e7, e8, e9, e10] <;> (clear e1 e2 e3 e4 e5 e6 e7 e8 e9 e10; omega)
  · show evW (loAr x b 1) [.v 7 0 8] = _
    simp only [evW, Seg.val, Seg.w, e1, e2, e3, e4, e5, e6, e7, e8, e9, e10] <;> (clear e1 e2 e3 e4 e5 e6 e7 e8 e9 e10; omega)
  · show evW (loAr x b 1) [.v 8 0 8] = _
    simp only [evW, Seg.val, Seg.w, e1, e2, e3, e4, e5, e6, e7, e8, e9, e10] <;> (clear e1 e2 e3 e4 e5 e6 e7 e8 e9 e10; omega)
  · show evW (loAr x b 1) [.p [.v 9 0 32] [.v 2 0 8, .v 6 0 8, .v 4 0 8, .v 8 0 8] 0 32] = _
    rw [hs]; simp only [evW, Seg.val, Seg.w, e1, e2, e3, e4, e5, e6, e7, e8, e9, e10] <;> (clear e1 e2 e3 e4 e5 e6 e7 e8 e9 e10; omega)
  · show evW (loAr x b 1) [.g .sub .u64 [.v 10 0 32] [.k 1 1] 0 32] = _
    rw [sub1_64 hK (by omega) (by omega)]; omega
  · show evW (loAr x b 1) [.k 24 5] = _
    simp only [evW, Seg.val, Seg.w, e1, e2, e3, e4, e5, e6, e7, e8, e9, e10] <;> (clear e1 e2 e3 e4 e5 e6 e7 e8 e9 e10; omega)
  · show evW (loAr x b 1) [.k 24 5] = _
    simp only [evW, Seg.val, Seg.w, e1, e2, e3, e4, e5, e6, e7, e8, e9, e10] <;> (clear e1 e2 e3 e4 e5 e6 e7 e8 e9 e10; omega)
theorem loA_inv {x b n : Nat} (hx : x < 4294967296) (hb : b < 4294967296) (hn : n = b % 90) : ∀ i, i + 2 ≤ n → loAr x b (i + 2) 0 < 16 ∧ loAr x b (i + 2) 1 = n / 256 % 256 ∧ loAr x b (i + 2) 2 = x % 256 ∧ loAr x b (i + 2) 3 = n / 16777216 % 256 ∧ loAr x b (i + 2) 4 = x / 65536 % 256 ∧ loAr x b (i + 2) 5 = n / 65536 % 256 ∧ loAr x b (i + 2) 6 = x / 256 % 256 ∧ loAr x b (i + 2) 7 = n % 256 ∧ loAr x b (i + 2) 8 = x / 16777216 % 256 ∧ loAr x b (i + 2) 9 = sm x (i + 2) ∧ loAr x b (i + 2) 10 = n - (i + 2) ∧ loAr x b (i + 2) 11 = 11 * (i + 2) + 2 ∧ loAr x b (i + 2) 12 = 11 * (i + 2) + 2
  | 0, h => loA_i2 hx hb hn h
  | i + 1, h => by
    obtain ⟨e0, e1, e2, e3, e4, e5, e6, e7, e8, e9, e10, e11, e12⟩ := loA_inv hx hb hn i (by omega)
    have hl := sm_lt x (i + 2)
    have hK : evW (loAr x b (i + 2)) [.v 10 0 32] = n - (i + 2) := by simp only [evW, Seg.val, Seg.w, e1, e2, e3, e4, e5, e6, e7, e8, e9, e10, e11, e12] <;> (clear e1 e2 e3 e4 e5 e6 e7 e8 e9 e10 e11 e12; omega)
    have hs : sm x (i + 1 + 2) = (sm x (i + 2) + x) % 4294967296 := rfl
    obtain ⟨c, hc⟩ : ∃ c, c = 11 * (i + 2) + 2 := ⟨_, rfl⟩
    rw [← hc] at e11 e12
    have hc1 : c ≤ 1100 := by omega
    have ht : 11 * (i + 1 + 2) + 2 = c + 11 := by omega
    refine ⟨?_, ?_, ?_, ?_, ?_, ?_, ?_, ?_, ?_, ?_, ?_, ?_, ?_⟩
    · show evW (loAr x b (i + 2)) [.g .sub .u64 [.p [.v 9 0 32] [.v 2 0 8, .v 6 0 8, .v 4 0 8, .v 8 0 8] 0 32] [.k 1 1] 63 1, .p [.v 9 0 32] [.v 2 0 8, .v 6 0 8, .v 4 0 8, .v 8 0 8] 31 1, .g .sub .u64 [.p [.v 9 0 32] [.v 2 0 8, .v 6 0 8, .v 4 0 8, .v 8 0 8] 0 32] [.v 9 0 32] 63 1, .g .and .u64 [.g .xor .u64 [.v 9 0 32] [.p [.v 9 0 32] [.v 2 0 8, .v 6 0 8, .v 4 0 8, .v 8 0 8] 0 32] 0 64] [.g .xor .u64 [.v 2 0 8, .v 6 0 8, .v 4 0 8, .v 8 0 8] [.p [.v 9 0 32] [.v 2 0 8, .v 6 0 8, .v 4 0 8, .v 8 0 8] 0 32] 0 64] 31 1] < 16
      exact fl16 (by decide)
    · show evW (loAr x b (i + 2)) [.v 1 0 8] = _
      simp only [evW, Seg.val, Seg.w, e1, e2, e3, e4, e5, e6, e7, e8, e9, e10, e11, e12] <;> (clear e1 e2 e3 e4 e5 e6 e7 e8 e9 e10 e11 e12; omega)
    · show evW (loAr x b (i + 2)) [.v 2 0 8] = _
      simp only [evW, Seg.val, Seg.w, e1, e2, e3, e4, e5, e6, e7, e8, e9, e10, e11, e12] <;> (clear e1 e2 e3 e4 e5 e6 e7 e8 e9 e10 e11 e12; omega)
    · show evW (loAr x b (i + 2)) [.v 3 0 8] = _
      simp only [evW, Seg.val, Seg.w, e1, e2, e3, e4, e5, e6, e7, e8, e9, e10, e11, e12] <;> (clear e1 e2 e3 e4 e5 e6 e7 e8 e9 e10 e11 e12; omega)
    · show evW (loAr x b (i + 2)) [.v 4 0 8] = _
      simp only [evW, Seg.val, Seg.w, e1, e2, e3, e4, e5, e6, e7, e8, e9, e10, e11, e12] <;> (clear e1 e2 e3 e4 e5 e6 e7 e8 e9 e10 e11 e12; omega)
    · show evW (loAr x b (i + 2)) [.v 5 0 8] = _
      simp only [evW, Seg.val, Seg.w, e1, e2, e3, e4, e5, e6, e7, e8, e9, e10, e11, e12] <;> (clear e1 e2 e3 e4 e5 e6 e7 e8 e9 e10 e11 e12; omega)
    · show evW (loAr x b (i + 2)) [.v 6 0 8] = _
      simp only [evW, Seg.val, Seg.w, e1, e2, e3, e4, e5, e6, e7, e8, e9, e10, e11, e12] <;> (clear e1 e2 e3 e4 e5 e6 e7 e8 e9 e10 e11 e12; omega)
    · show evW (loAr x b (i + 2)) [.v 7 0 8] = _
      simp only [evW, Seg.val, Seg.w, e1, e2, e3, e4, e5, e6, e7, e8, e9, e10, e11, e12] <;> (clear e1 e2 e3 e4 e5 e6 e7 e8 e9 e10 e11 e12; omega)
    · show evW (loAr x b (i + 2)) [.v 8 0 8] = _
      simp only [evW, Seg.val, Seg.w, e1, e2, e3, e4, e5, e6, e7, e8, e9, e10, e11, e12] <;> (clear e1 e2 e3 e4 e5 e6 e7 e8 e9 e10 e11 e12; omega)
    · show evW (loAr x b (i + 2)) [.p [.v 9 0 32] [.v 2 0 8, .v 6 0 8, .v 4 0 8, .v 8 0 8] 0 32] = _
      rw [hs]; simp only [evW, Seg.val, Seg.w, e1, e2, e3, e4, e5, e6, e7, e8, e9, e10, e11, e12] <;> (clear e1 e2 e3 e4 e5 e6 e7 e8 e9 e10 e11 e12; omega)
    · show evW (loAr x b (i + 2)) [.g .sub .u64 [.v 10 0 32] [.k 1 1] 0 32] = _
      rw [sub1_64 hK (by omega) (by omega)]; omega
    · show evW (loAr x b (i + 2)) [.p [.v 11 0 64] [.k 11 4] 0 64] = _
      rw [ht]; clear ht hc hs hl hK h hn; simp only [evW, Seg.val, Seg.w, e1, e2, e3, e4, e5, e6, e7, e8, e9, e10, e11, e12] <;> (clear e1 e2 e3 e4 e5 e6 e7 e8 e9 e10 e11 e12; omega)
    · show evW (loAr x b (i + 2)) [.p [.v 12 0 40] [.k 11 4] 0 64] = _
      rw [ht]; clear ht hc hs hl hK h hn; simp only [evW, Seg.val, Seg.w, e1, e2, e3, e4, e5, e6, e7, e8, e9, e10, e11, e12] <;> (clear e1 e2 e3 e4 e5 e6 e7 e8 e9 e10 e11 e12; omega)
theorem loAk_p0 {x b n : Nat} (hx : x < 4294967296) (hb : b < 4294967296) (hn : n = b % 90) (h1 : 1 ≤ n) : Rn8 (loASt x b 0) (loASt x b 1) := by
  obtain ⟨e0, e1, e2, e3, e4, e5, e6, e7⟩ := loA_s hx hb hn
  intro Y hY
  refine runP_call loA_p0 (ρ := loAr x b 0) (ρ' := loAr x b 1) ?_ ?_ hY
  · refine (all2 (asm_ne ?_) (all2 (asm_eq ?_) all0)) <;> (simp only [evW, Seg.val, Seg.w, e0, e1, e2, e3, e4, e5, e6, e7] <;> (clear e0 e1 e2 e3 e4 e5 e6 e7; omega))
  · refine (all2 rfl (all2 rfl (all2 rfl (all2 rfl (all2 rfl (all2 rfl (all2 rfl (all2 rfl (all2 rfl (all2 rfl (all2 rfl all0)))))))))))
theorem loAk_p1 {x b n : Nat} (hx : x < 4294967296) (hb : b < 4294967296) (hn : n = b % 90) (h1 : 2 ≤ n) : Rn8 (loASt x b 1) (loASt x b 2) := by
  obtain ⟨e0, e1, e2, e3, e4, e5, e6, e7, e8, e9, e10⟩ := loA_i1 hx hb hn (by omega)
  have hl := sm_lt x 1
  intro Y hY
  refine runP_call loA_p1 (ρ := loAr x b 1) (ρ' := loAr x b 2) ?_ ?_ hY
  · refine (all2 (asm_ne ?_) (all2 (asm_eq ?_) all0)) <;> (simp only [evW, Seg.val, Seg.w, e1, e2, e3, e4, e5, e6, e7, e8, e9, e10] <;> (clear e1 e2 e3 e4 e5 e6 e7 e8 e9 e10; omega))
  · refine (all2 rfl (all2 rfl (all2 rfl (all2 rfl (all2 rfl (all2 rfl (all2 rfl (all2 rfl (all2 rfl (all2 rfl (all2 rfl (all2 rfl (all2 rfl all0)))))))))))))
theorem loAk_pg {x b n : Nat} (hx : x < 4294967296) (hb : b < 4294967296) (hn : n = b % 90) {i : Nat} (h1 : i + 2 + 1 ≤ n) : Rn8 (loASt x b (i + 2)) (loASt x b (i + 2 + 1)) := by
  obtain ⟨e0, e1, e2, e3, e4, e5, e6, e7, e8, e9, e10, e11, e12⟩ := loA_inv hx hb hn i (by omega)
  have hl := sm_lt x (i + 2)
  obtain ⟨c, hc⟩ : ∃ c, c = 11 * (i + 2) + 2 := ⟨_, rfl⟩
  rw [← hc] at e11 e12
  have hc1 : c ≤ 1100 := by omega
  have ht : 11 * (i + 1 + 2) + 2 = c + 11 := by omega
  clear ht hc
  intro Y hY
  refine runP_call loA_pg (ρ := loAr x b (i + 2)) (ρ' := loAr x b (i + 2 + 1)) ?_ ?_ hY
  · refine (all2 (asm_ne ?_) (all2 (asm_eq ?_) (all2 (asm_lt ?_) all0))) <;> (simp only [evW, Seg.val, Seg.w, e1, e2, e3, e4, e5, e6, e7, e8, e9, e10, e11, e12] <;> (clear e1 e2 e3 e4 e5 e6 e7 e8 e9 e10 e11 e12; omega))
  · refine (all2 rfl (all2 rfl (all2 rfl (all2 rfl (all2 rfl (all2 rfl (all2 rfl (all2 rfl (all2 rfl (all2 rfl (all2 rfl (all2 rfl (all2 rfl all0)))))))))))))
theorem loAk_z0 {x b n : Nat} (hx : x < 4294967296) (hb : b < 4294967296) (hn : n = b % 90) (h1 : 0 = n)  : Rn8 (loASt x b 0) (tbH loAZ (loZ x b n)) := by
  obtain ⟨e0, e1, e2, e3, e4, e5, e6, e7⟩ := loA_s hx hb hn
  have f10 : loZ x b n 10 = 1 := rfl
  have f30 : loZ x b n 30 = 11 * n + 10 := rfl
  have f11 : loZ x b n 11 = n / 256 % 256 := rfl
  have f12 : loZ x b n 12 = x % 256 := rfl
  have f13 : loZ x b n 13 = n / 16777216 % 256 := rfl
  have f14 : loZ x b n 14 = x / 65536 % 256 := rfl
  have f15 : loZ x b n 15 = n / 65536 % 256 := rfl
  have f16 : loZ x b n 16 = x / 256 % 256 := rfl
  have f17 : loZ x b n 17 = n % 256 := rfl
  have f18 : loZ x b n 18 = x / 16777216 % 256 := rfl
  intro Y hY
  refine runP_call loA_z0 (ρ := loAr x b 0) (ρ' := loZ x b n) ?_ ?_ hY
  · refine (all2 (asm_eq ?_) (all2 (asm_eq ?_) (all2 (asm_eq ?_) (all2 (asm_eq ?_) (all2 (asm_eq ?_) all0))))) <;> (simp only [evW, Seg.val, Seg.w, e0, e1, e2, e3, e4, e5, e6, e7] <;> (clear e0 e1 e2 e3 e4 e5 e6 e7; omega))
  · refine (all2 ?_ (all2 ?_ (all2 ?_ (all2 ?_ (all2 ?_ (all2 ?_ (all2 ?_ (all2 ?_ (all2 ?_ (all2 ?_ all0))))))))))
    · show loZ x b n 10 = _
      rw [f10]; simp only [evW, Seg.val, Seg.w, e0, e1, e2, e3, e4, e5, e6, e7] <;> (clear e0 e1 e2 e3 e4 e5 e6 e7; omega)
    · show loZ x b n 11 = _
      rw [f11]; simp only [evW, Seg.val, Seg.w, e0, e1, e2, e3, e4, e5, e6, e7] <;> (clear e0 e1 e2 e3 e4 e5 e6 e7; omega)
    · show loZ x b n 12 = _
      rw [f12]; simp only [evW, Seg.val, Seg.w, e0, e1, e2, e3, e4, e5, e6, e7] <;> (clear e0 e1 e2 e3 e4 e5 e6 e7; omega)
    · show loZ x b n 13 = _
      rw [f13]; simp only [evW, Seg.val, Seg.w, e0, e1, e2, e3, e4, e5, e6, e7] <;> (clear e0 e1 e2 e3 e4 e5 e6 e7; omega)
    · show loZ x b n 14 = _
      rw [f14]; simp only [evW, Seg.val, Seg.w, e0, e1, e2, e3, e4, e5, e6, e7] <;> (clear e0 e1 e2 e3 e4 e5 e6 e7; omega)
    · show loZ x b n 15 = _
      rw [f15]; simp only [evW, Seg.val, Seg.w, e0, e1, e2, e3, e4, e5, e6, e7] <;> (clear e0 e1 e2 e3 e4 e5 e6 e7; omega)
    · show loZ x b n 16 = _
      rw [f16]; simp only [evW, Seg.val, Seg.w, e0, e1, e2, e3, e4, e5, e6, e7] <;> (clear e0 e1 e2 e3 e4 e5 e6 e7; omega)
    · show loZ x b n 17 = _
      rw [f17]; simp only [evW, Seg.val, Seg.w, e0, e1, e2, e3, e4, e5, e6, e7] <;> (clear e0 e1 e2 e3 e4 e5 e6 e7; omega)
    · show loZ x b n 18 = _
      rw [f18]; simp only [evW, Seg.val, Seg.w, e0, e1, e2, e3, e4, e5, e6, e7] <;> (clear e0 e1 e2 e3 e4 e5 e6 e7; omega)
    · show loZ x b n 30 = _
      rw [f30]; simp only [evW, Seg.val, Seg.w, e0, e1, e2, e3, e4, e5, e6, e7] <;> (clear e0 e1 e2 e3 e4 e5 e6 e7; omega)
theorem loAk_z1 {x b n : Nat} (hx : x < 4294967296) (hb : b < 4294967296) (hn : n = b % 90) (h1 : 1 = n) (hz : sm x n = 0) : Rn8 (loASt x b 1) (tbH loAZ (loZ x b n)) := by
  obtain ⟨e0, e1, e2, e3, e4, e5, e6, e7, e8, e9, e10⟩ := loA_i1 hx hb hn (by omega)
  have hl := sm_lt x 1
  have f10 : loZ x b n 10 = 1 := rfl
  have f30 : loZ x b n 30 = 11 * n + 10 := rfl
  have f11 : loZ x b n 11 = n / 256 % 256 := rfl
  have f12 : loZ x b n 12 = x % 256 := rfl
  have f13 : loZ x b n 13 = n / 16777216 % 256 := rfl
  have f14 : loZ x b n 14 = x / 65536 % 256 := rfl
  have f15 : loZ x b n 15 = n / 65536 % 256 := rfl
  have f16 : loZ x b n 16 = x / 256 % 256 := rfl
  have f17 : loZ x b n 17 = n % 256 := rfl
  have f18 : loZ x b n 18 = x / 16777216 % 256 := rfl
  have hsm : sm x 1 = sm x n := by rw [h1]
  rw [hsm] at e9
  intro Y hY
  refine runP_call loA_z1 (ρ := loAr x b 1) (ρ' := loZ x b n) ?_ ?_ hY
  · refine (all2 (asm_eq ?_) (all2 (asm_eq ?_) (all2 (asm_eq ?_) (all2 (asm_eq ?_) (all2 (asm_eq ?_) (all2 (asm_eq ?_) all0)))))) <;> (simp only [evW, Seg.val, Seg.w, e1, e2, e3, e4, e5, e6, e7, e8, e9, e10] <;> (clear e1 e2 e3 e4 e5 e6 e7 e8 e9 e10; omega))
  · refine (all2 ?_ (all2 ?_ (all2 ?_ (all2 ?_ (all2 ?_ (all2 ?_ (all2 ?_ (all2 ?_ (all2 ?_ (all2 ?_ all0))))))))))
    · show loZ x b n 10 = _
      rw [f10]; simp only [evW, Seg.val, Seg.w, e1, e2, e3, e4, e5, e6, e7, e8, e9, e10] <;> (clear e1 e2 e3 e4 e5 e6 e7 e8 e9 e10; omega)
    · show loZ x b n 11 = _
      rw [f11]; simp only [evW, Seg.val, Seg.w, e1, e2, e3, e4, e5, e6, e7, e8, e9, e10] <;> (clear e1 e2 e3 e4 e5 e6 e7 e8 e9 e10; omega)
    · show loZ x b n 12 = _
      rw [f12]; simp only [evW, Seg.val, Seg.w, e1, e2, e3, e4, e5, e6, e7, e8, e9, e10] <;> (clear e1 e2 e3 e4 e5 e6 e7 e8 e9 e10; omega)
    · show loZ x b n 13 = _
      rw [f13]; simp only [evW, Seg.val, Seg.w, e1, e2, e3, e4, e5, e6, e7, e8, e9, e10] <;> (clear e1 e2 e3 e4 e5 e6 e7 e8 e9 e10; omega)
    · show loZ x b n 14 = _
      rw [f14]; simp only [evW, Seg.val, Seg.w, e1, e2, e3, e4, e5, e6, e7, e8, e9, e10] <;> (clear e1 e2 e3 e4 e5 e6 e7 e8 e9 e10; omega)
    · show loZ x b n 15 = _
      rw [f15]; simp only [evW, Seg.val, Seg.w, e1, e2, e3, e4, e5, e6, e7, e8, e9, e10] <;> (clear e1 e2 e3 e4 e5 e6 e7 e8 e9 e10; omega)
    · show loZ x b n 16 = _
      rw [f16]; simp only [evW, Seg.val, Seg.w, e1, e2, e3, e4, e5, e6, e7, e8, e9, e10] <;> (clear e1 e2 e3 e4 e5 e6 e7 e8 e9 e10; omega)
    · show loZ x b n 17 = _
      rw [f17]; simp only [evW, Seg.val, Seg.w, e1, e2, e3, e4, e5, e6, e7, e8, e9, e10] <;> (clear e1 e2 e3 e4 e5 e6 e7 e8 e9 e10; omega)
    · show loZ x b n 18 = _
      rw [f18]; simp only [evW, Seg.val, Seg.w, e1, e2, e3, e4, e5, e6, e7, e8, e9, e10] <;> (clear e1 e2 e3 e4 e5 e6 e7 e8 e9 e10; omega)
    · show loZ x b n 30 = _
      rw [f30]; simp only [evW, Seg.val, Seg.w, e1, e2, e3, e4, e5, e6, e7, e8, e9, e10] <;> (clear e1 e2 e3 e4 e5 e6 e7 e8 e9 e10; omega)
theorem loAk_m10 {x b n : Nat} (hx : x < 4294967296) (hb : b < 4294967296) (hn : n = b % 90) (h1 : 1 = n) (q0 : sm x n / 1 % 256 ≠ 0) : Rn8 (loASt x b 1) (tbH loAM (loM x b n)) := by
  obtain ⟨e0, e1, e2, e3, e4, e5, e6, e7, e8, e9, e10⟩ := loA_i1 hx hb hn (by omega)
  have hl := sm_lt x 1
  have f10 : loM x b n 10 = 1 := rfl
  have f30 : loM x b n 30 = 11 * n + 10 := rfl
  have f11 : loM x b n 11 = n / 256 % 256 := rfl
  have f12 : loM x b n 12 = sm x n / 16777216 % 256 := rfl
  have f13 : loM x b n 13 = x % 256 := rfl
  have f14 : loM x b n 14 = n / 16777216 % 256 := rfl
  have f15 : loM x b n 15 = sm x n / 256 % 256 := rfl
  have f16 : loM x b n 16 = x / 65536 % 256 := rfl
  have f17 : loM x b n 17 = n / 65536 % 256 := rfl
  have f18 : loM x b n 18 = sm x n % 256 := rfl
  have f19 : loM x b n 19 = x / 256 % 256 := rfl
  have f20 : loM x b n 20 = sm x n / 65536 % 256 := rfl
  have f21 : loM x b n 21 = n % 256 := rfl
  have f22 : loM x b n 22 = x / 16777216 % 256 := rfl
  have hsm : sm x 1 = sm x n := by rw [h1]
  rw [hsm] at e9
  intro Y hY
  refine runP_call loA_m10 (ρ := loAr x b 1) (ρ' := loM x b n) ?_ ?_ hY
  · refine (all2 (asm_eq ?_) (all2 (asm_ne ?_) all0)) <;> (simp only [evW, Seg.val, Seg.w, e1, e2, e3, e4, e5, e6, e7, e8, e9, e10] <;> (clear e1 e2 e3 e4 e5 e6 e7 e8 e9 e10; omega))
  · refine (all2 ?_ (all2 ?_ (all2 ?_ (all2 ?_ (all2 ?_ (all2 ?_ (all2 ?_ (all2 ?_ (all2 ?_ (all2 ?_ (all2 ?_ (all2 ?_ (all2 ?_ (all2 ?_ all0))))))))))))))
    · show loM x b n 10 = _
      rw [f10]; simp only [evW, Seg.val, Seg.w, e1, e2, e3, e4, e5, e6, e7, e8, e9, e10] <;> (clear e1 e2 e3 e4 e5 e6 e7 e8 e9 e10; omega)
    · show loM x b n 11 = _
      rw [f11]; simp only [evW, Seg.val, Seg.w, e1, e2, e3, e4, e5, e6, e7, e8, e9, e10] <;> (clear e1 e2 e3 e4 e5 e6 e7 e8 e9 e10; omega)
    · show loM x b n 12 = _
      rw [f12]; simp only [evW, Seg.val, Seg.w, e1, e2, e3, e4, e5, e6, e7, e8, e9, e10] <;> (clear e1 e2 e3 e4 e5 e6 e7 e8 e9 e10; omega)
    · show loM x b n 13 = _
      rw [f13]; simp only [evW, Seg.val, Seg.w, e1, e2, e3, e4, e5, e6, e7, e8, e9, e10] <;> (clear e1 e2 e3 e4 e5 e6 e7 e8 e9 e10; omega)
    · show loM x b n 14 = _
      rw [f14]; simp only [evW, Seg.val, Seg.w, e1, e2, e3, e4, e5, e6, e7, e8, e9, e10] <;> (clear e1 e2 e3 e4 e5 e6 e7 e8 e9 e10; omega)
    · show loM x b n 15 = _
      rw [f15]; simp only [evW, Seg.val, Seg.w, e1, e2, e3, e4, e5, e6, e7, e8, e9, e10] <;> (clear e1 e2 e3 e4 e5 e6 e7 e8 e9 e10; omega)
    · show loM x b n 16 = _
      rw [f16]; simp only [evW, Seg.val, Seg.w, e1, e2, e3, e4, e5, e6, e7, e8, e9, e10] <;> (clear e1 e2 e3 e4 e5 e6 e7 e8 e9 e10; omega)
    · show loM x b n 17 = _
      rw [f17]; simp only [evW, Seg.val, Seg.w, e1, e2, e3, e4, e5, e6, e7, e8, e9, e10] <;> (clear e1 e2 e3 e4 e5 e6 e7 e8 e9 e10; omega)
    · show loM x b n 18 = _
      rw [f18]; simp only [evW, Seg.val, Seg.w, e1, e2, e3, e4, e5, e6, e7, e8, e9, e10] <;> (clear e1 e2 e3 e4 e5 e6 e7 e8 e9 e10; omega)
    · show loM x b n 19 = _
      rw [f19]; simp only [evW, Seg.val, Seg.w, e1, e2, e3, e4, e5, e6, e7, e8, e9, e10] <;> (clear e1 e2 e3 e4 e5 e6 e7 e8 e9 e10; omega)
    · show loM x b n 20 = _
      rw [f20]; simp only [evW, Seg.val, Seg.w, e1, e2, e3, e4, e5, e6, e7, e8, e9, e10] <;> (clear e1 e2 e3 e4 e5 e6 e7 e8 e9 e10; omega)
    · show loM x b n 21 = _
      rw [f21]; simp only [evW, Seg.val, Seg.w, e1, e2, e3, e4, e5, e6, e7, e8, e9, e10] <;> (clear e1 e2 e3 e4 e5 e6 e7 e8 e9 e10; omega)
    · show loM x b n 22 = _
      rw [f22]; simp only [evW, Seg.val, Seg.w, e1, e2, e3, e4, e5, e6, e7, e8, e9, e10] <;> (clear e1 e2 e3 e4 e5 e6 e7 e8 e9 e10; omega)
    · show loM x b n 30 = _
      rw [f30]; simp only [evW, Seg.val, Seg.w, e1, e2, e3, e4, e5, e6, e7, e8, e9, e10] <;> (clear e1 e2 e3 e4 e5 e6 e7 e8 e9 e10; omega)
theorem loAk_m11 {x b n : Nat} (hx : x < 4294967296) (hb : b < 4294967296) (hn : n = b % 90) (h1 : 1 = n) (q0 : sm x n / 1 % 256 = 0) (q1 : sm x n / 256 % 256 ≠ 0) : Rn8 (loASt x b 1) (tbH loAM (loM x b n)) := by
  obtain ⟨e0, e1, e2, e3, e4, e5, e6, e7, e8, e9, e10⟩ := loA_i1 hx hb hn (by omega)
  have hl := sm_lt x 1
  have f10 : loM x b n 10 = 1 := rfl
  have f30 : loM x b n 30 = 11 * n + 10 := rfl
  have f11 : loM x b n 11 = n / 256 % 256 := rfl
  have f12 : loM x b n 12 = sm x n / 16777216 % 256 := rfl
  have f13 : loM x b n 13 = x % 256 := rfl
  have f14 : loM x b n 14 = n / 16777216 % 256 := rfl
  have f15 : loM x b n 15 = sm x n / 256 % 256 := rfl
  have f16 : loM x b n 16 = x / 65536 % 256 := rfl
  have f17 : loM x b n 17 = n / 65536 % 256 := rfl
  have f18 : loM x b n 18 = sm x n % 256 := rfl
  have f19 : loM x b n 19 = x / 256 % 256 := rfl
  have f20 : loM x b n 20 = sm x n / 65536 % 256 := rfl
  have f21 : loM x b n 21 = n % 256 := rfl
  have f22 : loM x b n 22 = x / 16777216 % 256 := rfl
  have hsm : sm x 1 = sm x n := by rw [h1]
  rw [hsm] at e9
  intro Y hY
  refine runP_call loA_m11 (ρ := loAr x b 1) (ρ' := loM x b n) ?_ ?_ hY
  · refine (all2 (asm_eq ?_) (all2 (asm_eq ?_) (all2 (asm_ne ?_) all0))) <;> (simp only [evW, Seg.val, Seg.w, e1, e2, e3, e4, e5, e6, e7, e8, e9, e10] <;> (clear e1 e2 e3 e4 e5 e6 e7 e8 e9 e10; omega))
  · refine (all2 ?_ (all2 ?_ (all2 ?_ (all2 ?_ (all2 ?_ (all2 ?_ (all2 ?_ (all2 ?_ (all2 ?_ (all2 ?_ (all2 ?_ (all2 ?_ (all2 ?_ (all2 ?_ all0))))))))))))))
    · show loM x b n 10 = _
      rw [f10]; simp only [evW, Seg.val, Seg.w, e1, e2, e3, e4, e5, e6, e7, e8, e9, e10] <;> (clear e1 e2 e3 e4 e5 e6 e7 e8 e9 e10; omega)
    · show loM x b n 11 = _
      rw [f11]; simp only [evW, Seg.val, Seg.w, e1, e2, e3, e4, e5, e6, e7, e8, e9, e10] <;> (clear e1 e2 e3 e4 e5 e6 e7 e8 e9 e10; omega)
    · show loM x b n 12 = _
      rw [f12]; simp only [evW, Seg.val, Seg.w, e1, e2, e3, e4, e5, e6, e7, e8, e9, e10] <;> (clear e1 e2 e3 e4 e5 e6 e7 e8 e9 e10; omega)
    · show loM x b n 13 = _
      rw [f13]; simp only [evW, Seg.val, Seg.w, e1, e2, e3, e4, e5, e6, e7, e8, e9, e10] <;> (clear e1 e2 e3 e4 e5 e6 e7 e8 e9 e10; omega)
    · show loM x b n 14 = _
      rw [f14]; simp only [evW, Seg.val, Seg.w, e1, e2, e3, e4, e5, e6, e7, e8, e9, e10] <;> (clear e1 e2 e3 e4 e5 e6 e7 e8 e9 e10; omega)
    · show loM x b n 15 = _
      rw [f15]; simp only [evW, Seg.val, Seg.w, e1, e2, e3, e4, e5, e6, e7, e8, e9, e10] <;> (clear e1 e2 e3 e4 e5 e6 e7 e8 e9 e10; omega)
    · show loM x b n 16 = _
      rw [f16]; simp only [evW, Seg.val, Seg.w, e1, e2, e3, e4, e5, e6, e7, e8, e9, e10] <;> (clear e1 e2 e3 e4 e5 e6 e7 e8 e9 e10; omega)
    · show loM x b n 17 = _
      rw [f17]; simp only [evW, Seg.val, Seg.w, e1, e2, e3, e4, e5, e6, e7, e8, e9, e10] <;> (clear e1 e2 e3 e4 e5 e6 e7 e8 e9 e10; omega)
    · show loM x b n 18 = _
      rw [f18]; simp only [evW, Seg.val, Seg.w, e1, e2, e3, e4, e5, e6, e7, e8, e9, e10] <;> (clear e1 e2 e3 e4 e5 e6 e7 e8 e9 e10; omega)
    · show loM x b n 19 = _
      rw [f19]; simp only [evW, Seg.val, Seg.w, e1, e2, e3, e4, e5, e6, e7, e8, e9, e10] <;> (clear e1 e2 e3 e4 e5 e6 e7 e8 e9 e10; omega)
    · show loM x b n 20 = _
      rw [f20]; simp only [evW, Seg.val, Seg.w, e1, e2, e3, e4, e5, e6, e7, e8, e9, e10] <;> (clear e1 e2 e3 e4 e5 e6 e7 e8 e9 e10; omega)
    · show loM x b n 21 = _
      rw [f21]; simp only [evW, Seg.val, Seg.w, e1, e2, e3, e4, e5, e6, e7, e8, e9, e10] <;> (clear e1 e2 e3 e4 e5 e6 e7 e8 e9 e10; omega)
    · show loM x b n 22 = _
      rw [f22]; simp only [evW, Seg.val, Seg.w, e1, e2, e3, e4, e5, e6, e7, e8, e9, e10] <;> (clear e1 e2 e3 e4 e5 e6 e7 e8 e9 e10; omega)
    · show loM x b n 30 = _
      rw [f30]; simp only [evW, Seg.val, Seg.w, e1, e2, e3, e4, e5, e6, e7, e8, e9, e10] <;> (clear e1 e2 e3 e4 e5 e6 e7 e8 e9 e10; omega)
theorem loAk_m12 {x b n : Nat} (hx : x < 4294967296) (hb : b < 4294967296) (hn : n = b % 90) (h1 : 1 = n) (q0 : sm x n / 1 % 256 = 0) (q1 : sm x n / 256 % 256 = 0) (q2 : sm x n / 65536 % 256 ≠ 0) : Rn8 (loASt x b 1) (tbH loAM (loM x b n)) := by
  obtain ⟨e0, e1, e2, e3, e4, e5, e6, e7, e8, e9, e10⟩ := loA_i1 hx hb hn (by omega)
  have hl := sm_lt x 1
  have f10 : loM x b n 10 = 1 := rfl
  have f30 : loM x b n 30 = 11 * n + 10 := rfl
  have f11 : loM x b n 11 = n / 256 % 256 := rfl
  have f12 : loM x b n 12 = sm x n / 16777216 % 256 := rfl
  have f13 : loM x b n 13 = x % 256 := rfl
  have f14 : loM x b n 14 = n / 16777216 % 256 := rfl
  have f15 : loM x b n 15 = sm x n / 256 % 256 := rfl
  have f16 : loM x b n 16 = x / 65536 % 256 := rfl
  have f17 : loM x b n 17 = n / 65536 % 256 := rfl
  have f18 : loM x b n 18 = sm x n % 256 := rfl
  have f19 : loM x b n 19 = x / 256 % 256 := rfl
  have f20 : loM x b n 20 = sm x n / 65536 % 256 := rfl
  have f21 : loM x b n 21 = n % 256 := rfl
  have f22 : loM x b n 22 = x / 16777216 % 256 := rfl
  have hsm : sm x 1 = sm x n := by rw [h1]
  rw [hsm] at e9
  intro Y hY
  refine runP_call loA_m12 (ρ := loAr x b 1) (ρ' := loM x b n) ?_ ?_ hY
  · refine (all2 (asm_eq ?_) (all2 (asm_eq ?_) (all2 (asm_eq ?_) (all2 (asm_ne ?_) all0)))) <;> (simp only [evW, Seg.val, Seg.w, e1, e2, e3, e4, e5, e6, e7, e8, e9, e10] <;> (clear e1 e2 e3 e4 e5 e6 e7 e8 e9 e10; omega))
  · refine (all2 ?_ (all2 ?_ (all2 ?_ (all2 ?_ (all2 ?_ (all2 ?_ (all2 ?_ (all2 ?_ (all2 ?_ (all2 ?_ (all2 ?_ (all2 ?_ (all2 ?_ (all2 ?_ all0))))))))))))))
    · show loM x b n 10 = _
      rw [f10]; simp only [evW, Seg.val, Seg.w, e1, e2, e3, e4, e5, e6, e7, e8, e9, e10] <;> (clear e1 e2 e3 e4 e5 e6 e7 e8 e9 e10; omega)
    · show loM x b n 11 = _
      rw [f11]; simp only [evW, Seg.val, Seg.w, e1, e2, e3, e4, e5, e6, e7, e8, e9, e10] <;> (clear e1 e2 e3 e4 e5 e6 e7 e8 e9 e10; omega)
    · show loM x b n 12 = _
      rw [f12]; simp only [evW, Seg.val, Seg.w, e1, e2, e3, e4, e5, e6, e7, e8, e9, e10] <;> (clear e1 e2 e3 e4 e5 e6 e7 e8 e9 e10; omega)
    · show loM x b n 13 = _
      rw [f13]; simp only [evW, Seg.val, Seg.w, e1, e2, e3, e4, e5, e6, e7, e8, e9, e10] <;> (clear e1 e2 e3 e4 e5 e6 e7 e8 e9 e10; omega)
    · show loM x b n 14 = _
      rw [f14]; simp only [evW, Seg.val, Seg.w, e1, e2, e3, e4, e5, e6, e7, e8, e9, e10] <;> (clear e1 e2 e3 e4 e5 e6 e7 e8 e9 e10; omega)
    · show loM x b n 15 = _
      rw [f15]; simp only [evW, Seg.val, Seg.w, e1, e2, e3, e4, e5, e6, e7, e8, e9, e10] <;> (clear e1 e2 e3 e4 e5 e6 e7 e8 e9 e10; omega)
    · show loM x b n 16 = _
      rw [f16]; simp only [evW, Seg.val, Seg.w, e1, e2, e3, e4, e5, e6, e7, e8, e9, e10] <;> (clear e1 e2 e3 e4 e5 e6 e7 e8 e9 e10; omega)
    · show loM x b n 17 = _
      rw [f17]; simp only [evW, Seg.val, Seg.w, e1, e2, e3, e4, e5, e6, e7, e8, e9, e10] <;> (clear e1 e2 e3 e4 e5 e6 e7 e8 e9 e10; omega)
    · show loM x b n 18 = _
      rw [f18]; simp only [evW, Seg.val, Seg.w, e1, e2, e3, e4, e5, e6, e7, e8, e9, e10] <;> (clear e1 e2 e3 e4 e5 e6 e7 e8 e9 e10; omega)
    · show loM x b n 19 = _
      rw [f19]; simp only [evW, Seg.val, Seg.w, e1, e2, e3, e4, e5, e6, e7, e8, e9, e10] <;> (clear e1 e2 e3 e4 e5 e6 e7 e8 e9 e10; omega)
    · show loM x b n 20 = _
      rw [f20]; simp only [evW, Seg.val, Seg.w, e1, e2, e3, e4, e5, e6, e7, e8, e9, e10] <;> (clear e1 e2 e3 e4 e5 e6 e7 e8 e9 e10; omega)
    · show loM x b n 21 = _
      rw [f21]; simp only [evW, Seg.val, Seg.w, e1, e2, e3, e4, e5, e6, e7, e8, e9, e10] <;> (clear e1 e2 e3 e4 e5 e6 e7 e8 e9 e10; omega)
    · show loM x b n 22 = _
      rw [f22]; simp only [evW, Seg.val, Seg.w, e1, e2, e3, e4, e5, e6, e7, e8, e9, e10] <;> (clear e1 e2 e3 e4 e5 e6 e7 e8 e9 e10; omega)
    · show loM x b n 30 = _
      rw [f30]; simp only [evW, Seg.val, Seg.w, e1, e2, e3, e4, e5, e6, e7, e8, e9, e10] <;> (clear e1 e2 e3 e4 e5 e6 e7 e8 e9 e10; omega)
theorem loAk_m13 {x b n : Nat} (hx : x < 4294967296) (hb : b < 4294967296) (hn : n = b % 90) (h1 : 1 = n) (q0 : sm x n / 1 % 256 = 0) (q1 : sm x n / 256 % 256 = 0) (q2 : sm x n / 65536 % 256 = 0) (q3 : sm x n / 16777216 % 256 ≠ 0) : Rn8 (loASt x b 1) (tbH loAM (loM x b n)) := by
  obtain ⟨e0, e1, e2, e3, e4, e5, e6, e7, e8, e9, e10⟩ := loA_i1 hx hb hn (by omega)
  have hl := sm_lt x 1
  have f10 : loM x b n 10 = 1 := rfl
  have f30 : loM x b n 30 = 11 * n + 10 := rfl
  have f11 : loM x b n 11 = n / 256 % 256 := rfl
  have f12 : loM x b n 12 = sm x n / 16777216 % 256 := rfl
  have f13 : loM x b n 13 = x % 256 := rfl
  have f14 : loM x b n 14 = n / 16777216 % 256 := rfl
  have f15 : loM x b n 15 = sm x n / 256 % 256 := rfl
  have f16 : loM x b n 16 = x / 65536 % 256 := rfl
  have f17 : loM x b n 17 = n / 65536 % 256 := rfl
  have f18 : loM x b n 18 = sm x n % 256 := rfl
  have f19 : loM x b n 19 = x / 256 % 256 := rfl
  have f20 : loM x b n 20 = sm x n / 65536 % 256 := rfl
  have f21 : loM x b n 21 = n % 256 := rfl
  have f22 : loM x b n 22 = x / 16777216 % 256 := rfl
  have hsm : sm x 1 = sm x n := by rw [h1]
  rw [hsm] at e9
  intro Y hY
  refine runP_call loA_m13 (ρ := loAr x b 1) (ρ' := loM x b n) ?_ ?_ hY
  · refine (all2 (asm_eq ?_) (all2 (asm_eq ?_) (all2 (asm_eq ?_) (all2 (asm_eq ?_) (all2 (asm_ne ?_) all0))))) <;> (simp only [evW, Seg.val, Seg.w, e1, e2, e3, e4, e5, e6, e7, e8, e9, e10] <;> (clear e1 e2 e3 e4 e5 e6 e7 e8 e9 e10; omega))
  · refine (all2 ?_ (all2 ?_ (all2 ?_ (all2 ?_ (all2 ?_ (all2 ?_ (all2 ?_ (all2 ?_ (all2 ?_ (all2 ?_ (all2 ?_ (all2 ?_ (all2 ?_ (all2 ?_ all0))))))))))))))
    · show loM x b n 10 = _
      rw [f10]; simp only [evW, Seg.val, Seg.w, e1, e2, e3, e4, e5, e6, e7, e8, e9, e10] <;> (clear e1 e2 e3 e4 e5 e6 e7 e8 e9 e10; omega)
    · show loM x b n 11 = _
      rw [f11]; simp only [evW, Seg.val, Seg.w, e1, e2, e3, e4, e5, e6, e7, e8, e9, e10] <;> (clear e1 e2 e3 e4 e5 e6 e7 e8 e9 e10; omega)
    · show loM x b n 12 = _
      rw [f12]; simp only [evW, Seg.val, Seg.w, e1, e2, e3, e4, e5, e6, e7, e8, e9, e10] <;> (clear e1 e2 e3 e4 e5 e6 e7 e8 e9 e10; omega)
    · show loM x b n 13 = _
      rw [f13]; simp only [evW, Seg.val, Seg.w, e1, e2, e3, e4, e5, e6, e7, e8, e9, e10] <;> (clear e1 e2 e3 e4 e5 e6 e7 e8 e9 e10; omega)
    · show loM x b n 14 = _
      rw [f14]; simp only [evW, Seg.val, Seg.w, e1, e2, e3, e4, e5, e6, e7, e8, e9, e10] <;> (clear e1 e2 e3 e4 e5 e6 e7 e8 e9 e10; omega)
    · show loM x b n 15 = _
      rw [f15]; simp only [evW, Seg.val, Seg.w, e1, e2, e3, e4, e5, e6, e7, e8, e9, e10] <;> (clear e1 e2 e3 e4 e5 e6 e7 e8 e9 e10; omega)
    · show loM x b n 16 = _
      rw [f16]; simp only [evW, Seg.val, Seg.w, e1, e2, e3, e4, e5, e6, e7, e8, e9, e10] <;> (clear e1 e2 e3 e4 e5 e6 e7 e8 e9 e10; omega)
    · show loM x b n 17 = _
      rw [f17]; simp only [evW, Seg.val, Seg.w, e1, e2, e3, e4, e5, e6, e7, e8, e9, e10] <;> (clear e1 e2 e3 e4 e5 e6 e7 e8 e9 e10; omega)
    · show loM x b n 18 = _
      rw [f18]; simp only [evW, Seg.val, Seg.w, e1, e2, e3, e4, e5, e6, e7, e8, e9, e10] <;> (clear e1 e2 e3 e4 e5 e6 e7 e8 e9 e10; omega)
    · show loM x b n 19 = _
      rw [f19]; simp only [evW, Seg.val, Seg.w, e1, e2, e3, e4, e5, e6, e7, e8, e9, e10] <;> (clear e1 e2 e3 e4 e5 e6 e7 e8 e9 e10; omega)
    · show loM x b n 20 = _
      rw [f20]; simp only [evW, Seg.val, Seg.w, e1, e2, e3, e4, e5, e6, e7, e8, e9, e10] <;> (clear e1 e2 e3 e4 e5 e6 e7 e8 e9 e10; omega)
    · show loM x b n 21 = _
      rw [f21]; simp only [evW, Seg.val, Seg.w, e1, e2, e3, e4, e5, e6, e7, e8, e9, e10] <;> (clear e1 e2 e3 e4 e5 e6 e7 e8 e9 e10; omega)
    · show loM x b n 22 = _
      rw [f22]; simp only [evW, Seg.val, Seg.w, e1, e2, e3, e4, e5, e6, e7, e8, e9, e10] <;> (clear e1 e2 e3 e4 e5 e6 e7 e8 e9 e10; omega)
    · show loM x b n 30 = _
      rw [f30]; simp only [evW, Seg.val, Seg.w, e1, e2, e3, e4, e5, e6, e7, e8, e9, e10] <;> (clear e1 e2 e3 e4 e5 e6 e7 e8 e9 e10; omega)
theorem loAk_zG {x b n : Nat} (hx : x < 4294967296) (hb : b < 4294967296) (hn : n = b % 90) {i : Nat} (h1 : i + 2 = n) (hz : sm x n = 0) : Rn8 (loASt x b (i + 2)) (tbH loAZ (loZ x b n)) := by
  obtain ⟨e0, e1, e2, e3, e4, e5, e6, e7, e8, e9, e10, e11, e12⟩ := loA_inv hx hb hn i (by omega)
  have hl := sm_lt x (i + 2)
  have f10 : loZ x b n 10 = 1 := rfl
  have f30 : loZ x b n 30 = 11 * n + 10 := rfl
  have f11 : loZ x b n 11 = n / 256 % 256 := rfl
  have f12 : loZ x b n 12 = x % 256 := rfl
  have f13 : loZ x b n 13 = n / 16777216 % 256 := rfl
  have f14 : loZ x b n 14 = x / 65536 % 256 := rfl
  have f15 : loZ x b n 15 = n / 65536 % 256 := rfl
  have f16 : loZ x b n 16 = x / 256 % 256 := rfl
  have f17 : loZ x b n 17 = n % 256 := rfl
  have f18 : loZ x b n 18 = x / 16777216 % 256 := rfl
  have hsm : sm x (i + 2) = sm x n := by rw [h1]
  rw [hsm] at e9
  intro Y hY
  refine runP_call loA_zG (ρ := loAr x b (i + 2)) (ρ' := loZ x b n) ?_ ?_ hY
  · refine (all2 (asm_eq ?_) (all2 (asm_eq ?_) (all2 (asm_eq ?_) (all2 (asm_eq ?_) (all2 (asm_eq ?_) (all2 (asm_eq ?_) all0)))))) <;> (simp only [evW, Seg.val, Seg.w, e1, e2, e3, e4, e5, e6, e7, e8, e9, e10, e11, e12] <;> (clear e1 e2 e3 e4 e5 e6 e7 e8 e9 e10 e11 e12; omega))
  · refine (all2 ?_ (all2 ?_ (all2 ?_ (all2 ?_ (all2 ?_ (all2 ?_ (all2 ?_ (all2 ?_ (all2 ?_ (all2 ?_ all0))))))))))
    · show loZ x b n 10 = _
      rw [f10]; simp only [evW, Seg.val, Seg.w, e1, e2, e3, e4, e5, e6, e7, e8, e9, e10, e11, e12] <;> (clear e1 e2 e3 e4 e5 e6 e7 e8 e9 e10 e11 e12; omega)
    · show loZ x b n 11 = _
      rw [f11]; simp only [evW, Seg.val, Seg.w, e1, e2, e3, e4, e5, e6, e7, e8, e9, e10, e11, e12] <;> (clear e1 e2 e3 e4 e5 e6 e7 e8 e9 e10 e11 e12; omega)
    · show loZ x b n 12 = _
      rw [f12]; simp only [evW, Seg.val, Seg.w, e1, e2, e3, e4, e5, e6, e7, e8, e9, e10, e11, e12] <;> (clear e1 e2 e3 e4 e5 e6 e7 e8 e9 e10 e11 e12; omega)
    · show loZ x b n 13 = _
      rw [f13]; simp only [evW, Seg.val, Seg.w, e1, e2, e3, e4, e5, e6, e7, e8, e9, e10, e11, e12] <;> (clear e1 e2 e3 e4 e5 e6 e7 e8 e9 e10 e11 e12; omega)
    · show loZ x b n 14 = _
      rw [f14]; simp only [evW, Seg.val, Seg.w, e1, e2, e3, e4, e5, e6, e7, e8, e9, e10, e11, e12] <;> (clear e1 e2 e3 e4 e5 e6 e7 e8 e9 e10 e11 e12; omega)
    · show loZ x b n 15 = _
      rw [f15]; simp only [evW, Seg.val, Seg.w, e1, e2, e3, e4, e5, e6, e7, e8, e9, e10, e11, e12] <;> (clear e1 e2 e3 e4 e5 e6 e7 e8 e9 e10 e11 e12; omega)
    · show loZ x b n 16 = _
      rw [f16]; simp only [evW, Seg.val, Seg.w, e1, e2, e3, e4, e5, e6, e7, e8, e9, e10, e11, e12] <;> (clear e1 e2 e3 e4 e5 e6 e7 e8 e9 e10 e11 e12; omega)
    · show loZ x b n 17 = _
      rw [f17]; simp only [evW, Seg.val, Seg.w, e1, e2, e3, e4, e5, e6, e7, e8, e9, e10, e11, e12] <;> (clear e1 e2 e3 e4 e5 e6 e7 e8 e9 e10 e11 e12; omega)
    · show loZ x b n 18 = _
      rw [f18]; simp only [evW, Seg.val, Seg.w, e1, e2, e3, e4, e5, e6, e7, e8, e9, e10, e11, e12] <;> (clear e1 e2 e3 e4 e5 e6 e7 e8 e9 e10 e11 e12; omega)
    · show loZ x b n 30 = _
      rw [f30]; simp only [evW, Seg.val, Seg.w, e1, e2, e3, e4, e5, e6, e7, e8, e9, e10, e11, e12] <;> (clear e1 e2 e3 e4 e5 e6 e7 e8 e9 e10 e11 e12; omega)
theorem loAk_mG0 {x b n : Nat} (hx : x < 4294967296) (hb : b < 4294967296) (hn : n = b % 90) {i : Nat} (h1 : i + 2 = n) (q0 : sm x n / 1 % 256 ≠ 0) : Rn8 (loASt x b (i + 2)) (tbH loAM (loM x b n)) := by
  obtain ⟨e0, e1, e2, e3, e4, e5, e6, e7, e8, e9, e10, e11, e12⟩ := loA_inv hx hb hn i (by omega)
  have hl := sm_lt x (i + 2)
  have f10 : loM x b n 10 = 1 := rfl
  have f30 : loM x b n 30 = 11 * n + 10 := rfl
  have f11 : loM x b n 11 = n / 256 % 256 := rfl
  have f12 : loM x b n 12 = sm x n / 16777216 % 256 := rfl
  have f13 : loM x b n 13 = x % 256 := rfl
  have f14 : loM x b n 14 = n / 16777216 % 256 := rfl
  have f15 : loM x b n 15 = sm x n / 256 % 256 := rfl
  have f16 : loM x b n 16 = x / 65536 % 256 := rfl
  have f17 : loM x b n 17 = n / 65536 % 256 := rfl
  have f18 : loM x b n 18 = sm x n % 256 := rfl
  have f19 : loM x b n 19 = x / 256 % 256 := rfl
  have f20 : loM x b n 20 = sm x n / 65536 % 256 := rfl
  have f21 : loM x b n 21 = n % 256 := rfl
  have f22 : loM x b n 22 = x / 16777216 % 256 := rfl
  have hsm : sm x (i + 2) = sm x n := by rw [h1]
  rw [hsm] at e9
  intro Y hY
  refine runP_call loA_mG0 (ρ := loAr x b (i + 2)) (ρ' := loM x b n) ?_ ?_ hY
  · refine (all2 (asm_eq ?_) (all2 (asm_ne ?_) all0)) <;> (simp only [evW, Seg.val, Seg.w, e1, e2, e3, e4, e5, e6, e7, e8, e9, e10, e11, e12] <;> (clear e1 e2 e3 e4 e5 e6 e7 e8 e9 e10 e11 e12; omega))
  · refine (all2 ?_ (all2 ?_ (all2 ?_ (all2 ?_ (all2 ?_ (all2 ?_ (all2 ?_ (all2 ?_ (all2 ?_ (all2 ?_ (all2 ?_ (all2 ?_ (all2 ?_ (all2 ?_ all0))))))))))))))
    · show loM x b n 10 = _
      rw [f10]; simp only [evW, Seg.val, Seg.w, e1, e2, e3, e4, e5, e6, e7, e8, e9, e10, e11, e12] <;> (clear e1 e2 e3 e4 e5 e6 e7 e8 e9 e10 e11 e12; omega)
    · show loM x b n 11 = _
      rw [f11]; simp only [evW, Seg.val, Seg.w, e1, e2, e3, e4, e5, e6, e7, e8, e9, e10, e11, e12] <;> (clear e1 e2 e3 e4 e5 e6 e7 e8 e9 e10 e11 e12; omega)
    · show loM x b n 12 = _
      rw [f12]; simp only [evW, Seg.val, Seg.w, e1, e2, e3, e4, e5, e6, e7, e8, e9, e10, e11, e12] <;> (clear e1 e2 e3 e4 e5 e6 e7 e8 e9 e10 e11 e12; omega)
    · show loM x b n 13 = _
      rw [f13]; simp only [evW, Seg.val, Seg.w, e1, e2, e3, e4, e5, e6, e7, e8, e9, e10, e11, e12] <;> (clear e1 e2 e3 e4 e5 e6 e7 e8 e9 e10 e11 e12; omega)
    · show loM x b n 14 = _
      rw [f14]; simp only [evW, Seg.val, Seg.w, e1, e2, e3, e4, e5, e6, e7, e8, e9, e10, e11, e12] <;> (clear e1 e2 e3 e4 e5 e6 e7 e8 e9 e10 e11 e12; omega)
    · show loM x b n 15 = _
      rw [f15]; simp only [evW, Seg.val, Seg.w, e1, e2, e3, e4, e5, e6, e7, e8, e9, e10, e11, e12] <;> (clear e1 e2 e3 e4 e5 e6 e7 e8 e9 e10 e11 e12; omega)
    · show loM x b n 16 = _
      rw [f16]; simp only [evW, Seg.val, Seg.w, e1, e2, e3, e4, e5, e6, e7, e8, e9, e10, e11, e12] <;> (clear e1 e2 e3 e4 e5 e6 e7 e8 e9 e10 e11 e12; omega)
    · show loM x b n 17 = _
      rw [f17]; simp only [evW, Seg.val, Seg.w, e1, e2, e3, e4, e5, e6, e7, e8, e9, e10, e11, e12] <;> (clear e1 e2 e3 e4 e5 e6 e7 e8 e9 e10 e11 e12; omega)
    · show loM x b n 18 = _
      rw [f18]; simp only [evW, Seg.val, Seg.w, e1, e2, e3, e4, e5, e6, e7, e8, e9, e10, e11, e12] <;> (clear e1 e2 e3 e4 e5 e6 e7 e8 e9 e10 e11 e12; omega)
    · show loM x b n 19 = _
      rw [f19]; simp only [evW, Seg.val, Seg.w, e1, e2, e3, e4, e5, e6, e7, e8, e9, e10, e11, e12] <;> (clear e1 e2 e3 e4 e5 e6 e7 e8 e9 e10 e11 e12; omega)
    · show loM x b n 20 = _
      rw [f20]; simp only [evW, Seg.val, Seg.w, e1, e2, e3, e4, e5, e6, e7, e8, e9, e10, e11, e12] <;> (clear e1 e2 e3 e4 e5 e6 e7 e8 e9 e10 e11 e12; omega)
    · show loM x b n 21 = _
      rw [f21]; simp only [evW, Seg.val, Seg.w, e1, e2, e3, e4, e5, e6, e7, e8, e9, e10, e11, e12] <;> (clear e1 e2 e3 e4 e5 e6 e7 e8 e9 e10 e11 e12; omega)
    · show loM x b n 22 = _
      rw [f22]; simp only [evW, Seg.val, Seg.w, e1, e2, e3, e4, e5, e6, e7, e8, e9, e10, e11, e12] <;> (clear e1 e2 e3 e4 e5 e6 e7 e8 e9 e10 e11 e12; omega)
    · show loM x b n 30 = _
      rw [f30]; simp only [evW, Seg.val, Seg.w, e1, e2, e3, e4, e5, e6, e7, e8, e9, e10, e11, e12] <;> (clear e1 e2 e3 e4 e5 e6 e7 e8 e9 e10 e11 e12; omega)
theorem loAk_mG1 {x b n : Nat} (hx : x < 4294967296) (hb : b < 4294967296) (hn : n = b % 90) {i : Nat} (h1 : i + 2 = n) (q0 : sm x n / 1 % 256 = 0) (q1 : sm x n / 256 % 256 ≠ 0) : Rn8 (loASt x b (i + 2)) (tbH loAM (loM x b n)) := by
  obtain ⟨e0, e1, e2, e3, e4, e5, e6, e7, e8, e9, e10, e11, e12⟩ := loA_inv hx hb hn i (by omega)
  have hl := sm_lt x (i + 2)
  have f10 : loM x b n 10 = 1 := rfl
  have f30 : loM x b n 30 = 11 * n + 10 := rfl
  have f11 : loM x b n 11 = n / 256 % 256 := rfl
  have f12 : loM x b n 12 = sm x n / 16777216 % 256 := rfl
  have f13 : loM x b n 13 = x % 256 := rfl
  have f14 : loM x b n 14 = n / 16777216 % 256 := rfl
  have f15 : loM x b n 15 = sm x n / 256 % 256 := rfl
  have f16 : loM x b n 16 = x / 65536 % 256 := rfl
  have f17 : loM x b n 17 = n / 65536 % 256 := rfl
  have f18 : loM x b n 18 = sm x n % 256 := rfl
  have f19 : loM x b n 19 = x / 256 % 256 := rfl
  have f20 : loM x b n 20 = sm x n / 65536 % 256 := rfl
  have f21 : loM x b n 21 = n % 256 := rfl
  have f22 : loM x b n 22 = x / 16777216 % 256 := rfl
  have hsm : sm x (i + 2) = sm x n := by rw [h1]
  rw [hsm] at e9
  intro Y hY
  refine runP_call loA_mG1 (ρ := loAr x b (i + 2)) (ρ' := loM x b n) ?_ ?_ hY
  · refine (all2 (asm_eq ?_) (all2 (asm_eq ?_) (all2 (asm_ne ?_) all0))) <;> (simp only [evW, Seg.val, Seg.w, e1, e2, e3, e4, e5, e6, e7, e8, e9, e10, e11, e12] <;> (clear e1 e2 e3 e4 e5 e6 e7 e8 e9 e10 e11 e12; omega))
  · refine (all2 ?_ (all2 ?_ (all2 ?_ (all2 ?_ (all2 ?_ (all2 ?_ (all2 ?_ (all2 ?_ (all2 ?_ (all2 ?_ (all2 ?_ (all2 ?_ (all2 ?_ (all2 ?_ all0))))))))))))))
    · show loM x b n 10 = _
      rw [f10]; simp only [evW, Seg.val, Seg.w, e1, e2, e3, e4, e5, e6, e7, e8, e9, e10, e11, e12] <;> (clear e1 e2 e3 e4 e5 e6 e7 e8 e9 e10 e11 e12; omega)
    · show loM x b n 11 = _
      rw [f11]; simp only [evW, Seg.val, Seg.w, e1, e2, e3, e4, e5, e6, e7, e8, e9, e10, e11, e12] <;> (clear e1 e2 e3 e4 e5 e6 e7 e8 e9 e10 e11 e12; omega)
    · show loM x b n 12 = _
      rw [f12]; simp only [evW, Seg.val, Seg.w, e1, e2, e3, e4, e5, e6, e7, e8, e9, e10, e11, e12] <;> (clear e1 e2 e3 e4 e5 e6 e7 e8 e9 e10 e11 e12; omega)
    · show loM x b n 13 = _
      rw [f13]; simp only [evW, Seg.val, Seg.w, e1, e2, e3, e4, e5, e6, e7, e8, e9, e10, e11, e12] <;> (clear e1 e2 e3 e4 e5 e6 e7 e8 e9 e10 e11 e12; omega)
    · show loM x b n 14 = _
      rw [f14]; simp only [evW, Seg.val, Seg.w, e1, e2, e3, e4, e5, e6, e7, e8, e9, e10, e11, e12] <;> (clear e1 e2 e3 e4 e5 e6 e7 e8 e9 e10 e11 e12; omega)
    · show loM x b n 15 = _
      rw [f15]; simp only [evW, Seg.val, Seg.w, e1, e2, e3, e4, e5, e6, e7, e8, e9, e10, e11, e12] <;> (clear e1 e2 e3 e4 e5 e6 e7 e8 e9 e10 e11 e12; omega)
    · show loM x b n 16 = _
      rw [f16]; simp only [evW, Seg.val, Seg.w, e1, e2, e3, e4, e5, e6, e7, e8, e9, e10, e11, e12] <;> (clear e1 e2 e3 e4 e5 e6 e7 e8 e9 e10 e11 e12; omega)
    · show loM x b n 17 = _
      rw [f17]; simp only [evW, Seg.val, Seg.w, e1, e2, e3, e4, e5, e6, e7, e8, e9, e10, e11, e12] <;> (clear e1 e2 e3 e4 e5 e6 e7 e8 e9 e10 e11 e12; omega)
    · show loM x b n 18 = _
      rw [f18]; simp only [evW, Seg.val, Seg.w, e1, e2, e3, e4, e5, e6, e7, e8, e9, e10, e11, e12] <;> (clear e1 e2 e3 e4 e5 e6 e7 e8 e9 e10 e11 e12; omega)
    · show loM x b n 19 = _
      rw [f19]; simp only [evW, Seg.val, Seg.w, e1, e2, e3, e4, e5, e6, e7, e8, e9, e10, e11, e12] <;> (clear e1 e2 e3 e4 e5 e6 e7 e8 e9 e10 e11 e12; omega)
    · show loM x b n 20 = _
      rw [f20]; simp only [evW, Seg.val, Seg.w, e1, e2, e3, e4, e5, e6, e7, e8, e9, e10, e11, e12] <;> (clear e1 e2 e3 e4 e5 e6 e7 e8 e9 e10 e11 e12; omega)
    · show loM x b n 21 = _
      rw [f21]; simp only [evW, Seg.val, Seg.w, e1, e2, e3, e4, e5, e6, e7, e8, e9, e10, e11, e12] <;> (clear e1 e2 e3 e4 e5 e6 e7 e8 e9 e10 e11 e12; omega)
    · show loM x b n 22 = _
      rw [f22]; simp only [evW, Seg.val, Seg.w, e1, e2, e3, e4, e5, e6, e7, e8, e9, e10, e11, e12] <;> (clear e1 e2 e3 e4 e5 e6 e7 e8 e9 e10 e11 e12; omega)
    · show loM x b n 30 = _
      rw [f30]; simp only [evW, Seg.val, Seg.w, e1, e2, e3, e4, e5, e6, e7, e8, e9, e10, e11, e12] <;> (clear e1 e2 e3 e4 e5 e6 e7 e8 e9 e10 e11 e12; omega)
theorem loAk_mG2 {x b n : Nat} (hx : x < 4294967296) (hb : b < 4294967296) (hn : n = b % 90) {i : Nat} (h1 : i + 2 = n) (q0 : sm x n / 1 % 256 = 0) (q1 : sm x n / 256 % 256 = 0) (q2 : sm x n / 65536 % 256 ≠ 0) : Rn8 (loASt x b (i + 2)) (tbH loAM (loM x b n)) := by
  obtain ⟨e0, e1, e2, e3, e4, e5, e6, e7, e8, e9, e10, e11, e12⟩ := loA_inv hx hb hn i (by omega)
  have hl := sm_lt x (i + 2)
  have f10 : loM x b n 10 = 1 := rfl
  have f30 : loM x b n 30 = 11 * n + 10 := rfl
  have f11 : loM x b n 11 = n / 256 % 256 := rfl
  have f12 : loM x b n 12 = sm x n / 16777216 % 256 := rfl
  have f13 : loM x b n 13 = x % 256 := rfl
  have f14 : loM x b n 14 = n / 16777216 % 256 := rfl
  have f15 : loM x b n 15 = sm x n / 256 % 256 := rfl
  have f16 : loM x b n 16 = x / 65536 % 256 := rfl
  have f17 : loM x b n 17 = n / 65536 % 256 := rfl
  have f18 : loM x b n 18 = sm x n % 256 := rfl
  have f19 : loM x b n 19 = x / 256 % 256 := rfl
  have f20 : loM x b n 20 = sm x n / 65536 % 256 := rfl
  have f21 : loM x b n 21 = n % 256 := rfl
  have f22 : loM x b n 22 = x / 16777216 % 256 := rfl
  have hsm : sm x (i + 2) = sm x n := by rw [h1]
  rw [hsm] at e9
  intro Y hY
  refine runP_call loA_mG2 (ρ := loAr x b (i + 2)) (ρ' := loM x b n) ?_ ?_ hY
  · refine (all2 (asm_eq ?_) (all2 (asm_eq ?_) (all2 (asm_eq ?_) (all2 (asm_ne ?_) all0)))) <;> (simp only [evW, Seg.val, Seg.w, e1, e2, e3, e4, e5, e6, e7, e8, e9, e10, e11, e12] <;> (clear e1 e2 e3 e4 e5 e6 e7 e8 e9 e10 e11 e12; omega))
  · refine (all2 ?_ (all2 ?_ (all2 ?_ (all2 ?_ (all2 ?_ (all2 ?_ (all2 ?_ (all2 ?_ (all2 ?_ (all2 ?_ (all2 ?_ (all2 ?_ (all2 ?_ (all2 ?_ all0))))))))))))))
    · show loM x b n 10 = _
      rw [f10]; simp only [evW, Seg.val, Seg.w, e1, e2, e3, e4, e5, e6, e7, e8, e9, e10, e11, e12] <;> (clear e1 e2 e3 e4 e5 e6 e7 e8 e9 e10 e11 e12; omega)
    · show loM x b n 11 = _
      rw [f11]; simp only [evW, Seg.val, Seg.w, e1, e2, e3, e4, e5, e6, e7, e8, e9, e10, e11, e12] <;> (clear e1 e2 e3 e4 e5 e6 e7 e8 e9 e10 e11 e12; omega)
    · show loM x b n 12 = _
      rw [f12]; simp only [evW, Seg.val, Seg.w, e1, e2, e3, e4, e5, e6, e7, e8, e9, e10, e11, e12] <;> (clear e1 e2 e3 e4 e5 e6 e7 e8 e9 e10 e11 e12; omega)
    · show loM x b n 13 = _
      rw [f13]; simp only [evW, Seg.val, Seg.w, e1, e2, e3, e4, e5, e6, e7, e8, e9, e10, e11, e12] <;> (clear e1 e2 e3 e4 e5 e6 e7 e8 e9 e10 e11 e12; omega)
    · show loM x b n 14 = _
      rw [f14]; simp only [evW, Seg.val, Seg.w, e1, e2, e3, e4, e5, e6, e7, e8, e9, e10, e11, e12] <;> (clear e1 e2 e3 e4 e5 e6 e7 e8 e9 e10 e11 e12; omega)
    · show loM x b n 15 = _
      rw [f15]; simp only [evW, Seg.val, Seg.w, e1, e2, e3, e4, e5, e6, e7, e8, e9, e10, e11, e12] <;> (clear e1 e2 e3 e4 e5 e6 e7 e8 e9 e10 e11 e12; omega)
    · show loM x b n 16 = _
      rw [f16]; simp only [evW, Seg.val, Seg.w, e1, e2, e3, e4, e5, e6, e7, e8, e9, e10, e11, e12] <;> (clear e1 e2 e3 e4 e5 e6 e7 e8 e9 e10 e11 e12; omega)
    · show loM x b n 17 = _
      rw [f17]; simp only [evW, Seg.val, Seg.w, e1, e2, e3, e4, e5, e6, e7, e8, e9, e10, e11, e12] <;> (clear e1 e2 e3 e4 e5 e6 e7 e8 e9 e10 e11 e12; omega)
    · show loM x b n 18 = _
      rw [f18]; simp only [evW, Seg.val, Seg.w, e1, e2, e3, e4, e5, e6, e7, e8, e9, e10, e11, e12] <;> (clear e1 e2 e3 e4 e5 e6 e7 e8 e9 e10 e11 e12; omega)
    · show loM x b n 19 = _
      rw [f19]; simp only [evW, Seg.val, Seg.w, e1, e2, e3, e4, e5, e6, e7, e8, e9, e10, e11, e12] <;> (clear e1 e2 e3 e4 e5 e6 e7 e8 e9 e10 e11 e12; omega)
    · show loM x b n 20 = _
      rw [f20]; simp only [evW, Seg.val, Seg.w, e1, e2, e3, e4, e5, e6, e7, e8, e9, e10, e11, e12] <;> (clear e1 e2 e3 e4 e5 e6 e7 e8 e9 e10 e11 e12; omega)
    · show loM x b n 21 = _
      rw [f21]; simp only [evW, Seg.val, Seg.w, e1, e2, e3, e4, e5, e6, e7, e8, e9, e10, e11, e12] <;> (clear e1 e2 e3 e4 e5 e6 e7 e8 e9 e10 e11 e12; omega)
    · show loM x b n 22 = _
      rw [f22]; simp only [evW, Seg.val, Seg.w, e1, e2, e3, e4, e5, e6, e7, e8, e9, e10, e11, e12] <;> (clear e1 e2 e3 e4 e5 e6 e7 e8 e9 e10 e11 e12; omega)
    · show loM x b n 30 = _
      rw [f30]; simp only [evW, Seg.val, Seg.w, e1, e2, e3, e4, e5, e6, e7, e8, e9, e10, e11, e12] <;> (clear e1 e2 e3 e4 e5 e6 e7 e8 e9 e10 e11 e12; omega)
theorem loAk_mG3 {x b n : Nat} (hx : x < 4294967296) (hb : b < 4294967296) (hn : n = b % 90) {i : Nat} (h1 : i + 2 = n) (q0 : sm x n / 1 % 256 = 0) (q1 : sm x n / 256 % 256 = 0) (q2 : sm x n / 65536 % 256 = 0) (q3 : sm x n / 16777216 % 256 ≠ 0) : Rn8 (loASt x b (i + 2)) (tbH loAM (loM x b n)) := by
  obtain ⟨e0, e1, e2, e3, e4, e5, e6, e7, e8, e9, e10, e11, e12⟩ := loA_inv hx hb hn i (by omega)
  have hl := sm_lt x (i + 2)
  have f10 : loM x b n 10 = 1 := rfl
  have f30 : loM x b n 30 = 11 * n + 10 := rfl
  have f11 : loM x b n 11 = n / 256 % 256 := rfl
  have f12 : loM x b n 12 = sm x n / 16777216 % 256 := rfl
  have f13 : loM x b n 13 = x % 256 := rfl
  have f14 : loM x b n 14 = n / 16777216 % 256 := rfl
  have f15 : loM x b n 15 = sm x n / 256 % 256 := rfl
  have f16 : loM x b n 16 = x / 65536 % 256 := rfl
  have f17 : loM x b n 17 = n / 65536 % 256 := rfl
  have f18 : loM x b n 18 = sm x n % 256 := rfl
  have f19 : loM x b n 19 = x / 256 % 256 := rfl
  have f20 : loM x b n 20 = sm x n / 65536 % 256 := rfl
  have f21 : loM x b n 21 = n % 256 := rfl
  have f22 : loM x b n 22 = x / 16777216 % 256 := rfl
  have hsm : sm x (i + 2) = sm x n := by rw [h1]
  rw [hsm] at e9
  intro Y hY
  refine runP_call loA_mG3 (ρ := loAr x b (i + 2)) (ρ' := loM x b n) ?_ ?_ hY
  · refine (all2 (asm_eq ?_) (all2 (asm_eq ?_) (all2 (asm_eq ?_) (all2 (asm_eq ?_) (all2 (asm_ne ?_) all0))))) <;> (simp only [evW, Seg.val, Seg.w, e1, e2, e3, e4, e5, e6, e7, e8, e9, e10, e11, e12] <;> (clear e1 e2 e3 e4 e5 e6 e7 e8 e9 e10 e11 e12; omega))
  · refine (all2 ?_ (all2 ?_ (all2 ?_ (all2 ?_ (all2 ?_ (all2 ?_ (all2 ?_ (all2 ?_ (all2 ?_ (all2 ?_ (all2 ?_ (all2 ?_ (all2 ?_ (all2 ?_ all0))))))))))))))
    · show loM x b n 10 = _
      rw [f10]; simp only [evW, Seg.val, Seg.w, e1, e2, e3, e4, e5, e6, e7, e8, e9, e10, e11, e12] <;> (clear e1 e2 e3 e4 e5 e6 e7 e8 e9 e10 e11 e12; omega)
    · show loM x b n 11 = _
      rw [f11]; simp only [evW, Seg.val, Seg.w, e1, e2, e3, e4, e5, e6, e7, e8, e9, e10, e11, e12] <;> (clear e1 e2 e3 e4 e5 e6 e7 e8 e9 e10 e11 e12; omega)
    · show loM x b n 12 = _
      rw [f12]; simp only [evW, Seg.val, Seg.w, e1, e2, e3, e4, e5, e6, e7, e8, e9, e10, e11, e12] <;> (clear e1 e2 e3 e4 e5 e6 e7 e8 e9 e10 e11 e12; omega)
    · show loM x b n 13 = _
      rw [f13]; simp only [evW, Seg.val, Seg.w, e1, e2, e3, e4, e5, e6, e7, e8, e9, e10, e11, e12] <;> (clear e1 e2 e3 e4 e5 e6 e7 e8 e9 e10 e11 e12; omega)
    · show loM x b n 14 = _
      rw [f14]; simp only [evW, Seg.val, Seg.w, e1, e2, e3, e4, e5, e6, e7, e8, e9, e10, e11, e12] <;> (clear e1 e2 e3 e4 e5 e6 e7 e8 e9 e10 e11 e12; omega)
    · show loM x b n 15 = _
      rw [f15]; simp only [evW, Seg.val, Seg.w, e1, e2, e3, e4, e5, e6, e7, e8, e9, e10, e11, e12] <;> (clear e1 e2 e3 e4 e5 e6 e7 e8 e9 e10 e11 e12; omega)
    · show loM x b n 16 = _
      rw [f16]; simp only [evW, Seg.val, Seg.w, e1, e2, e3, e4, e5, e6, e7, e8, e9, e10, e11, e12] <;> (clear e1 e2 e3 e4 e5 e6 e7 e8 e9 e10 e11 e12; omega)
    · show loM x b n 17 = _
      rw [f17]; simp only [evW, Seg.val, Seg.w, e1, e2, e3, e4, e5, e6, e7, e8, e9, e10, e11, e12] <;> (clear e1 e2 e3 e4 e5 e6 e7 e8 e9 e10 e11 e12; omega)
    · show loM x b n 18 = _
      rw [f18]; simp only [evW, Seg.val, Seg.w, e1, e2, e3, e4, e5, e6, e7, e8, e9, e10, e11, e12] <;> (clear e1 e2 e3 e4 e5 e6 e7 e8 e9 e10 e11 e12; omega)
    · show loM x b n 19 = _
      rw [f19]; simp only [evW, Seg.val, Seg.w, e1, e2, e3, e4, e5, e6, e7, e8, e9, e10, e11, e12] <;> (clear e1 e2 e3 e4 e5 e6 e7 e8 e9 e10 e11 e12; omega)
    · show loM x b n 20 = _
      rw [f20]; simp only [evW, Seg.val, Seg.w, e1, e2, e3, e4, e5, e6, e7, e8, e9, e10, e11, e12] <;> (clear e1 e2 e3 e4 e5 e6 e7 e8 e9 e10 e11 e12; omega)
    · show loM x b n 21 = _
      rw [f21]; simp only [evW, Seg.val, Seg.w, e1, e2, e3, e4, e5, e6, e7, e8, e9, e10, e11, e12] <;> (clear e1 e2 e3 e4 e5 e6 e7 e8 e9 e10 e11 e12; omega)
    · show loM x b n 22 = _
      rw [f22]; simp only [evW, Seg.val, Seg.w, e1, e2, e3, e4, e5, e6, e7, e8, e9, e10, e11, e12] <;> (clear e1 e2 e3 e4 e5 e6 e7 e8 e9 e10 e11 e12; omega)
    · show loM x b n 30 = _
      rw [f30]; simp only [evW, Seg.val, Seg.w, e1, e2, e3, e4, e5, e6, e7, e8, e9, e10, e11, e12] <;> (clear e1 e2 e3 e4 e5 e6 e7 e8 e9 e10 e11 e12; omega)
theorem loAk_l0 {x b n : Nat} (hx : x < 4294967296) (hb : b < 4294967296) (hn : n = b % 90)  : Lk false (loASt x b 0) := by
  obtain ⟨e0, e1, e2, e3, e4, e5, e6, e7⟩ := loA_s hx hb hn
  intro Y hY
  refine lookP_call loA_l0 (ρ := loAr x b 0) ?_ hY
  refine (all2 ?_ (all2 ?_ (all2 ?_ (all2 ?_ (all2 ?_ (all2 ?_ (all2 ?_ (all2 ?_ all0))))))))
  · show loAr x b 0 0 = _
    simp only [evW, Seg.val, Seg.w, e0, e1, e2, e3, e4, e5, e6, e7] <;> (clear e0 e1 e2 e3 e4 e5 e6 e7; omega)
  · show loAr x b 0 1 = _
    simp only [evW, Seg.val, Seg.w, e0, e1, e2, e3, e4, e5, e6, e7] <;> (clear e0 e1 e2 e3 e4 e5 e6 e7; omega)
  · show loAr x b 0 2 = _
    simp only [evW, Seg.val, Seg.w, e0, e1, e2, e3, e4, e5, e6, e7] <;> (clear e0 e1 e2 e3 e4 e5 e6 e7; omega)
  · show loAr x b 0 3 = _
    simp only [evW, Seg.val, Seg.w, e0, e1, e2, e3, e4, e5, e6, e7] <;> (clear e0 e1 e2 e3 e4 e5 e6 e7; omega)
  · show loAr x b 0 4 = _
    simp only [evW, Seg.val, Seg.w, e0, e1, e2, e3, e4, e5, e6, e7] <;> (clear e0 e1 e2 e3 e4 e5 e6 e7; omega)
  · show loAr x b 0 5 = _
    simp only [evW, Seg.val, Seg.w, e0, e1, e2, e3, e4, e5, e6, e7] <;> (clear e0 e1 e2 e3 e4 e5 e6 e7; omega)
  · show loAr x b 0 6 = _
    simp only [evW, Seg.val, Seg.w, e0, e1, e2, e3, e4, e5, e6, e7] <;> (clear e0 e1 e2 e3 e4 e5 e6 e7; omega)
  · show loAr x b 0 7 = _
    simp only [evW, Seg.val, Seg.w, e0, e1, e2, e3, e4, e5, e6, e7] <;> (clear e0 e1 e2 e3 e4 e5 e6 e7; omega)
theorem loAk_l1 {x b n : Nat} (hx : x < 4294967296) (hb : b < 4294967296) (hn : n = b % 90) (h1 : 1 ≤ n) : Lk false (loASt x b 1) := by
  obtain ⟨e0, e1, e2, e3, e4, e5, e6, e7, e8, e9, e10⟩ := loA_i1 hx hb hn (by omega)
  have hl := sm_lt x 1
  intro Y hY
  refine lookP_call loA_l1 (ρ := loAr x b 1) ?_ hY
  refine (all2 ?_ (all2 ?_ (all2 ?_ (all2 ?_ (all2 ?_ (all2 ?_ (all2 ?_ (all2 ?_ (all2 ?_ (all2 ?_ (all2 ?_ all0)))))))))))
  · show loAr x b 1 0 = evW _ [.v 0 0 4]
    simp only [evW, Seg.val, Seg.w]; clear e1 e2 e3 e4 e5 e6 e7 e8 e9 e10; omega
  · show loAr x b 1 1 = _
    simp only [evW, Seg.val, Seg.w, e1, e2, e3, e4, e5, e6, e7, e8, e9, e10] <;> (clear e1 e2 e3 e4 e5 e6 e7 e8 e9 e10; omega)
  · show loAr x b 1 2 = _
    simp only [evW, Seg.val, Seg.w, e1, e2, e3, e4, e5, e6, e7, e8, e9, e10] <;> (clear e1 e2 e3 e4 e5 e6 e7 e8 e9 e10; omega)
  · show loAr x b 1 3 = _
    simp only [evW, Seg.val, Seg.w, e1, e2, e3, e4, e5, e6, e7, e8, e9, e10] <;> (clear e1 e2 e3 e4 e5 e6 e7 e8 e9 e10; omega)
  · show loAr x b 1 4 = _
    simp only [evW, Seg.val, Seg.w, e1, e2, e3, e4, e5, e6, e7, e8, e9, e10] <;> (clear e1 e2 e3 e4 e5 e6 e7 e8 e9 e10; omega)
  · show loAr x b 1 5 = _
    simp only [evW, Seg.val, Seg.w, e1, e2, e3, e4, e5, e6, e7, e8, e9, e10] <;> (clear e1 e2 e3 e4 e5 e6 e7 e8 e9 e10; omega)
  · show loAr x b 1 6 = _
    simp only [evW, Seg.val, Seg.w, e1, e2, e3, e4, e5, e6, e7, e8, e9, e10] <;> (clear e1 e2 e3 e4 e5 e6 e7 e8 e9 e10; omega)
  · show loAr x b 1 7 = _
    simp only [evW, Seg.val, Seg.w, e1, e2, e3, e4, e5, e6, e7, e8, e9, e10] <;> (clear e1 e2 e3 e4 e5 e6 e7 e8 e9 e10; omega)
  · show loAr x b 1 8 = _
    simp only [evW, Seg.val, Seg.w, e1, e2, e3, e4, e5, e6, e7, e8, e9, e10] <;> (clear e1 e2 e3 e4 e5 e6 e7 e8 e9 e10; omega)
  · show loAr x b 1 9 = _
    simp only [evW, Seg.val, Seg.w, e1, e2, e3, e4, e5, e6, e7, e8, e9, e10] <;> (clear e1 e2 e3 e4 e5 e6 e7 e8 e9 e10; omega)
  · show loAr x b 1 10 = _
    simp only [evW, Seg.val, Seg.w, e1, e2, e3, e4, e5, e6, e7, e8, e9, e10] <;> (clear e1 e2 e3 e4 e5 e6 e7 e8 e9 e10; omega)
theorem loAk_lG {x b n : Nat} (hx : x < 4294967296) (hb : b < 4294967296) (hn : n = b % 90) {i : Nat} (h1 : i + 2 ≤ n) : Lk false (loASt x b (i + 2)) := by
  obtain ⟨e0, e1, e2, e3, e4, e5, e6, e7, e8, e9, e10, e11, e12⟩ := loA_inv hx hb hn i (by omega)
  have hl := sm_lt x (i + 2)
  intro Y hY
  refine lookP_call loA_lG (ρ := loAr x b (i + 2)) ?_ hY
  refine (all2 ?_ (all2 ?_ (all2 ?_ (all2 ?_ (all2 ?_ (all2 ?_ (all2 ?_ (all2 ?_ (all2 ?_ (all2 ?_ (all2 ?_ (all2 ?_ (all2 ?_ all0)))))))))))))
  · show loAr x b (i + 2) 0 = evW _ [.v 0 0 4]
    simp only [evW, Seg.val, Seg.w]; clear e1 e2 e3 e4 e5 e6 e7 e8 e9 e10 e11 e12; omega
  · show loAr x b (i + 2) 1 = _
    simp only [evW, Seg.val, Seg.w, e1, e2, e3, e4, e5, e6, e7, e8, e9, e10, e11, e12] <;> (clear e1 e2 e3 e4 e5 e6 e7 e8 e9 e10 e11 e12; omega)
  · show loAr x b (i + 2) 2 = _
    simp only [evW, Seg.val, Seg.w, e1, e2, e3, e4, e5, e6, e7, e8, e9, e10, e11, e12] <;> (clear e1 e2 e3 e4 e5 e6 e7 e8 e9 e10 e11 e12; omega)
  · show loAr x b (i + 2) 3 = _
    simp only [evW, Seg.val, Seg.w, e1, e2, e3, e4, e5, e6, e7, e8, e9, e10, e11, e12] <;> (clear e1 e2 e3 e4 e5 e6 e7 e8 e9 e10 e11 e12; omega)
  · show loAr x b (i + 2) 4 = _
    simp only [evW, Seg.val, Seg.w, e1, e2, e3, e4, e5, e6, e7, e8, e9, e10, e11, e12] <;> (clear e1 e2 e3 e4 e5 e6 e7 e8 e9 e10 e11 e12; omega)
  · show loAr x b (i + 2) 5 = _
    simp only [evW, Seg.val, Seg.w, e1, e2, e3, e4, e5, e6, e7, e8, e9, e10, e11, e12] <;> (clear e1 e2 e3 e4 e5 e6 e7 e8 e9 e10 e11 e12; omega)
  · show loAr x b (i + 2) 6 = _
    simp only [evW, Seg.val, Seg.w, e1, e2, e3, e4, e5, e6, e7, e8, e9, e10, e11, e12] <;> (clear e1 e2 e3 e4 e5 e6 e7 e8 e9 e10 e11 e12; omega)
  · show loAr x b (i + 2) 7 = _
    simp only [evW, Seg.val, Seg.w, e1, e2, e3, e4, e5, e6, e7, e8, e9, e10, e11, e12] <;> (clear e1 e2 e3 e4 e5 e6 e7 e8 e9 e10 e11 e12; omega)
  · show loAr x b (i + 2) 8 = _
    simp only [evW, Seg.val, Seg.w, e1, e2, e3, e4, e5, e6, e7, e8, e9, e10, e11, e12] <;> (clear e1 e2 e3 e4 e5 e6 e7 e8 e9 e10 e11 e12; omega)
  · show loAr x b (i + 2) 9 = _
    simp only [evW, Seg.val, Seg.w, e1, e2, e3, e4, e5, e6, e7, e8, e9, e10, e11, e12] <;> (clear e1 e2 e3 e4 e5 e6 e7 e8 e9 e10 e11 e12; omega)
  · show loAr x b (i + 2) 10 = _
    simp only [evW, Seg.val, Seg.w, e1, e2, e3, e4, e5, e6, e7, e8, e9, e10, e11, e12] <;> (clear e1 e2 e3 e4 e5 e6 e7 e8 e9 e10 e11 e12; omega)
  · show loAr x b (i + 2) 11 = _
    simp only [evW, Seg.val, Seg.w, e1, e2, e3, e4, e5, e6, e7, e8, e9, e10, e11, e12] <;> (clear e1 e2 e3 e4 e5 e6 e7 e8 e9 e10 e11 e12; omega)
  · show loAr x b (i + 2) 12 = _
    simp only [evW, Seg.val, Seg.w, e1, e2, e3, e4, e5, e6, e7, e8, e9, e10, e11, e12] <;> (clear e1 e2 e3 e4 e5 e6 e7 e8 e9 e10 e11 e12; omega)
theorem loAk_lZ {x b n : Nat} (hn : n = b % 90) : Lk true (tbH loAZ (loZ x b n)) := by
  have hl := sm_lt x n
  have f10 : loZ x b n 10 = 1 := rfl
  have f30 : loZ x b n 30 = 11 * n + 10 := rfl
  have f11 : loZ x b n 11 = n / 256 % 256 := rfl
  have f12 : loZ x b n 12 = x % 256 := rfl
  have f13 : loZ x b n 13 = n / 16777216 % 256 := rfl
  have f14 : loZ x b n 14 = x / 65536 % 256 := rfl
  have f15 : loZ x b n 15 = n / 65536 % 256 := rfl
  have f16 : loZ x b n 16 = x / 256 % 256 := rfl
  have f17 : loZ x b n 17 = n % 256 := rfl
  have f18 : loZ x b n 18 = x / 16777216 % 256 := rfl
  intro Y hY
  refine lookP_call loA_lZ (ρ := loZ x b n) ?_ hY
  refine (all2 ?_ (all2 ?_ (all2 ?_ (all2 ?_ (all2 ?_ (all2 ?_ (all2 ?_ (all2 ?_ (all2 ?_ (all2 ?_ all0))))))))))
  · show loZ x b n 10 = _
    simp only [evW, Seg.val, Seg.w, f10, f30, f11, f12, f13, f14, f15, f16, f17, f18] <;> (clear f10 f30 f11 f12 f13 f14 f15 f16 f17 f18; omega)
  · show loZ x b n 11 = _
    simp only [evW, Seg.val, Seg.w, f10, f30, f11, f12, f13, f14, f15, f16, f17, f18] <;> (clear f10 f30 f11 f12 f13 f14 f15 f16 f17 f18; omega)
  · show loZ x b n 12 = _
    simp only [evW, Seg.val, Seg.w, f10, f30, f11, f12, f13, f14, f15, f16, f17, f18] <;> (clear f10 f30 f11 f12 f13 f14 f15 f16 f17 f18; omega)
  · show loZ x b n 13 = _
    simp only [evW, Seg.val, Seg.w, f10, f30, f11, f12, f13, f14, f15, f16, f17, f18] <;> (clear f10 f30 f11 f12 f13 f14 f15 f16 f17 f18; omega)
  · show loZ x b n 14 = _
    simp only [evW, Seg.val, Seg.w, f10, f30, f11, f12, f13, f14, f15, f16, f17, f18] <;> (clear f10 f30 f11 f12 f13 f14 f15 f16 f17 f18; omega)
  · show loZ x b n 15 = _
    simp only [evW, Seg.val, Seg.w, f10, f30, f11, f12, f13, f14, f15, f16, f17, f18] <;> (clear f10 f30 f11 f12 f13 f14 f15 f16 f17 f18; omega)
  · show loZ x b n 16 = _
    simp only [evW, Seg.val, Seg.w, f10, f30, f11, f12, f13, f14, f15, f16, f17, f18] <;> (clear f10 f30 f11 f12 f13 f14 f15 f16 f17 f18; omega)
  · show loZ x b n 17 = _
    simp only [evW, Seg.val, Seg.w, f10, f30, f11, f12, f13, f14, f15, f16, f17, f18] <;> (clear f10 f30 f11 f12 f13 f14 f15 f16 f17 f18; omega)
  · show loZ x b n 18 = _
    simp only [evW, Seg.val, Seg.w, f10, f30, f11, f12, f13, f14, f15, f16, f17, f18] <;> (clear f10 f30 f11 f12 f13 f14 f15 f16 f17 f18; omega)
  · show loZ x b n 30 = _
    simp only [evW, Seg.val, Seg.w, f10, f30, f11, f12, f13, f14, f15, f16, f17, f18] <;> (clear f10 f30 f11 f12 f13 f14 f15 f16 f17 f18; omega)
theorem loAk_lM {x b n : Nat} (hn : n = b % 90) : Lk true (tbH loAM (loM x b n)) := by
  have hl := sm_lt x n
  have f10 : loM x b n 10 = 1 := rfl
  have f30 : loM x b n 30 = 11 * n + 10 := rfl
  have f11 : loM x b n 11 = n / 256 % 256 := rfl
  have f12 : loM x b n 12 = sm x n / 16777216 % 256 := rfl
  have f13 : loM x b n 13 = x % 256 := rfl
  have f14 : loM x b n 14 = n / 16777216 % 256 := rfl
  have f15 : loM x b n 15 = sm x n / 256 % 256 := rfl
  have f16 : loM x b n 16 = x / 65536 % 256 := rfl
  have f17 : loM x b n 17 = n / 65536 % 256 := rfl
  have f18 : loM x b n 18 = sm x n % 256 := rfl
  have f19 : loM x b n 19 = x / 256 % 256 := rfl
  have f20 : loM x b n 20 = sm x n / 65536 % 256 := rfl
  have f21 : loM x b n 21 = n % 256 := rfl
  have f22 : loM x b n 22 = x / 16777216 % 256 := rfl
  intro Y hY
  refine lookP_call loA_lM (ρ := loM x b n) ?_ hY
  refine (all2 ?_ (all2 ?_ (all2 ?_ (all2 ?_ (all2 ?_ (all2 ?_ (all2 ?_ (all2 ?_ (all2 ?_ (all2 ?_ (all2 ?_ (all2 ?_ (all2 ?_ (all2 ?_ all0))))))))))))))
  · show loM x b n 10 = _
    simp only [evW, Seg.val, Seg.w, f10, f30, f11, f12, f13, f14, f15, f16, f17, f18, f19, f20, f21, f22] <;> (clear f10 f30 f11 f12 f13 f14 f15 f16 f17 f18 f19 f20 f21 f22; omega)
  · show loM x b n 11 = _
    simp only [evW, Seg.val, Seg.w, f10, f30, f11, f12, f13, f14, f15, f16, f17, f18, f19, f20, f21, f22] <;> (clear f10 f30 f11 f12 f13 f14 f15 f16 f17 f18 f19 f20 f21 f22; omega)
  · show loM x b n 12 = _
    simp only [evW, Seg.val, Seg.w, f10, f30, f11, f12, f13, f14, f15, f16, f17, f18, f19, f20, f21, f22] <;> (clear f10 f30 f11 f12 f13 f14 f15 f16 f17 f18 f19 f20 f21 f22; omega)
  · show loM x b n 13 = _
    simp only [evW, Seg.val, Seg.w, f10, f30, f11, f12, f13, f14, f15, f16, f17, f18, f19, f20, f21, f22] <;> (clear f10 f30 f11 f12 f13 f14 f15 f16 f17 f18 f19 f20 f21 f22; omega)
  · show loM x b n 14 = _
    simp only [evW, Seg.val, Seg.w, f10, f30, f11, f12, f13, f14, f15, f16, f17, f18, f19, f20, f21, f22] <;> (clear f10 f30 f11 f12 f13 f14 f15 f16 f17 f18 f19 f20 f21 f22; omega)
  · show loM x b n 15 = _
    simp only [evW, Seg.val, Seg.w, f10, f30, f11, f12, f13, f14, f15, f16, f17, f18, f19, f20, f21, f22] <;> (clear f10 f30 f11 f12 f13 f14 f15 f16 f17 f18 f19 f20 f21 f22; omega)
  · show loM x b n 16 = _
    simp only [evW, Seg.val, Seg.w, f10, f30, f11, f12, f13, f14, f15, f16, f17, f18, f19, f20, f21, f22] <;> (clear f10 f30 f11 f12 f13 f14 f15 f16 f17 f18 f19 f20 f21 f22; omega)
  · show loM x b n 17 = _
    simp only [evW, Seg.val, Seg.w, f10, f30, f11, f12, f13, f14, f15, f16, f17, f18, f19, f20, f21, f22] <;> (clear f10 f30 f11 f12 f13 f14 f15 f16 f17 f18 f19 f20 f21 f22; omega)
  · show loM x b n 18 = _
    simp only [evW, Seg.val, Seg.w, f10, f30, f11, f12, f13, f14, f15, f16, f17, f18, f19, f20, f21, f22] <;> (clear f10 f30 f11 f12 f13 f14 f15 f16 f17 f18 f19 f20 f21 f22; omega)
  · show loM x b n 19 = _
    simp only [evW, Seg.val, Seg.w, f10, f30, f11, f12, f13, f14, f15, f16, f17, f18, f19, f20, f21, f22] <;> (clear f10 f30 f11 f12 f13 f14 f15 f16 f17 f18 f19 f20 f21 f22; omega)
  · show loM x b n 20 = _
    simp only [evW, Seg.val, Seg.w, f10, f30, f11, f12, f13, f14, f15, f16, f17, f18, f19, f20, f21, f22] <;> (clear f10 f30 f11 f12 f13 f14 f15 f16 f17 f18 f19 f20 f21 f22; omega)
  · show loM x b n 21 = _
    simp only [evW, Seg.val, Seg.w, f10, f30, f11, f12, f13, f14, f15, f16, f17, f18, f19, f20, f21, f22] <;> (clear f10 f30 f11 f12 f13 f14 f15 f16 f17 f18 f19 f20 f21 f22; omega)
  · show loM x b n 22 = _
    simp only [evW, Seg.val, Seg.w, f10, f30, f11, f12, f13, f14, f15, f16, f17, f18, f19, f20, f21, f22] <;> (clear f10 f30 f11 f12 f13 f14 f15 f16 f17 f18 f19 f20 f21 f22; omega)
  · show loM x b n 30 = _
    simp only [evW, Seg.val, Seg.w, f10, f30, f11, f12, f13, f14, f15, f16, f17, f18, f19, f20, f21, f22] <;> (clear f10 f30 f11 f12 f13 f14 f15 f16 f17 f18 f19 f20 f21 f22; omega)
def loBr (x b : Nat) : Nat → Nat → Nat
  | 0 => valS (rl [x, b]) loBXs
  | i + 1 => valS (loBr x b i) (match i with | 0 => loBXp0 | _ + 1 => loBXpg)
def loBSt (x b : Nat) : Nat → Heap
  | 0 => tbH loB0 (loBr x b 0)
  | i + 1 => tbH loBG (loBr x b (i + 1))
theorem loB_s {x b n : Nat} (hx : x < 4294967296) (hb : b < 4294967296) (hn : n = b % 90) : loBr x b 0 0 = n / 256 % 256 ∧ loBr x b 0 1 = x % 256 ∧ loBr x b 0 2 = n / 16777216 % 256 ∧ loBr x b 0 3 = x / 65536 % 256 ∧ loBr x b 0 4 = n / 65536 % 256 ∧ loBr x b 0 5 = x / 256 % 256 ∧ loBr x b 0 6 = n % 256 ∧ loBr x b 0 7 = x / 16777216 % 256 := by
  have h := rem90 (rl [x, b]) b rfl hb
  have hx0 : rl [x, b] 0 = x := rfl
  refine ⟨?_, ?_, ?_, ?_, ?_, ?_, ?_, ?_⟩
  · show evW (rl [x, b]) [.g .rem .u32 [.v 1 0 32] [.k 90 7] 8 8] = _
    simp only [evW, Seg.val, Seg.w, hx0] at h ⊢
    rw [h] <;> omega
  · show evW (rl [x, b]) [.v 0 0 8] = _
    simp only [evW, Seg.val, Seg.w, hx0] at h ⊢
    omega
  · show evW (rl [x, b]) [.g .rem .u32 [.v 1 0 32] [.k 90 7] 24 8] = _
    simp only [evW, Seg.val, Seg.w, hx0] at h ⊢
    rw [h] <;> omega
  · show evW (rl [x, b]) [.v 0 16 8] = _
    simp only [evW, Seg.val, Seg.w, hx0] at h ⊢
    omega
  · show evW (rl [x, b]) [.g .rem .u32 [.v 1 0 32] [.k 90 7] 16 8] = _
    simp only [evW, Seg.val, Seg.w, hx0] at h ⊢
    rw [h] <;> omega
  · show evW (rl [x, b]) [.v 0 8 8] = _
    simp only [evW, Seg.val, Seg.w, hx0] at h ⊢
    omega
  · show evW (rl [x, b]) [.g .rem .u32 [.v 1 0 32] [.k 90 7] 0 8] = _
    simp only [evW, Seg.val, Seg.w, hx0] at h ⊢
    rw [h] <;> omega
  · show evW (rl [x, b]) [.v 0 24 8] = _
    simp only [evW, Seg.val, Seg.w, hx0] at h ⊢
    omega
theorem loB_i1 {x b n : Nat} (hx : x < 4294967296) (hb : b < 4294967296) (hn : n = b % 90) (h1 : 1 ≤ n) : loBr x b 1 0 < 16 ∧ loBr x b 1 1 = n / 256 % 256 ∧ loBr x b 1 2 = x % 256 ∧ loBr x b 1 3 = n / 16777216 % 256 ∧ loBr x b 1 4 = x / 65536 % 256 ∧ loBr x b 1 5 = n / 65536 % 256 ∧ loBr x b 1 6 = x / 256 % 256 ∧ loBr x b 1 7 = n % 256 ∧ loBr x b 1 8 = x / 16777216 % 256 ∧ loBr x b 1 9 = sm x (1) ∧ loBr x b 1 10 = n - (1) ∧ loBr x b 1 11 = 11 * (1) + 2 := by
  obtain ⟨e0, e1, e2, e3, e4, e5, e6, e7⟩ := loB_s hx hb hn
  have hN : evW (loBr x b 0) [.v 6 0 8, .v 0 0 8, .v 4 0 8, .v 2 0 8] = n := by simp only [evW, Seg.val, Seg.w, e0, e1, e2, e3, e4, e5, e6, e7] <;> (clear e0 e1 e2 e3 e4 e5 e6 e7; omega)
  have hs : sm x 1 = (0 + x) % 4294967296 := rfl
  refine ⟨?_, ?_, ?_, ?_, ?_, ?_, ?_, ?_, ?_, ?_, ?_, ?_⟩
  · show evW (loBr x b 0) [.g .sub .u64 [.v 1 0 8, .v 5 0 8, .v 3 0 8, .v 7 0 8] [.k 1 1] 63 1, .g .sub .u64 [] [.k 0 31, .v 7 7 1] 63 1] < 16
    exact fl16 (by decide)
  · show evW (loBr x b 0) [.v 0 0 8] = _
    simp only [evW, Seg.val, Seg.w, e0, e1, e2, e3, e4, e5, e6, e7] <;> (clear e0 e1 e2 e3 e4 e5 e6 e7; omega)
  · show evW (loBr x b 0) [.v 1 0 8] = _
    simp only [evW, Seg.val, Seg.w, e0, e1, e2, e3, e4, e5, e6, e7] <;> (clear e0 e1 e2 e3 e4 e5 e6 e7; omega)
  · show evW (loBr x b 0) [.v 2 0 8] = _
    simp only [evW, Seg.val, Seg.w, e0, e1, e2, e3, e4, e5, e6, e7] <;> (clear e0 e1 e2 e3 e4 e5 e6 e7; omega)
  · show evW (loBr x b 0) [.v 3 0 8] = _
    simp only [evW, Seg.val, Seg.w, e0, e1, e2, e3, e4, e5, e6, e7] <;> (clear e0 e1 e2 e3 e4 e5 e6 e7; omega)
  · show evW (loBr x b 0) [.v 4 0 8] = _
    simp only [evW, Seg.val, Seg.w, e0, e1, e2, e3, e4, e5, e6, e7] <;> (clear e0 e1 e2 e3 e4 e5 e6 e7; omega)
  · show evW (loBr x b 0) [.v 5 0 8] = _
    simp only [evW, Seg.val, Seg.w, e0, e1, e2, e3, e4, e5, e6, e7] <;> (clear e0 e1 e2 e3 e4 e5 e6 e7; omega)
  · show evW (loBr x b 0) [.v 6 0 8] = _
    simp only [evW, Seg.val, Seg.w, e0, e1, e2, e3, e4, e5, e6, e7] <;> (clear e0 e1 e2 e3 e4 e5 e6 e7; omega)
  · show evW (loBr x b 0) [.v 7 0 8] = _
    simp only [evW, Seg.val, Seg.w, e0, e1, e2, e3, e4, e5, e6, e7] <;> (clear e0 e1 e2 e3 e4 e5 e6 e7; omega)
  · show evW (loBr x b 0) [.v 1 0 8, .v 5 0 8, .v 3 0 8, .v 7 0 8] = _
    rw [hs]; simp only [evW, Seg.val, Seg.w, e0, e1, e2, e3, e4, e5, e6, e7] <;> (clear e0 e1 e2 e3 e4 e5 e6 e7; omega)
  · show evW (loBr x b 0) [.g .sub .u32 [.v 6 0 8, .v 0 0 8, .v 4 0 8, .v 2 0 8] [.k 1 1] 0 32] = _
    rw [sub1_32 hN (by omega) (by omega)]
  · show evW (loBr x b 0) [.k 13 4] = _
    simp only [evW, Seg.val, Seg.w, e0, e1, e2, e3, e4, e5, e6, e7] <;> (clear e0 e1 e2 e3 e4 e5 e6 e7; omega)
theorem loB_inv {x b n : Nat} (hx : x < 4294967296) (hb : b < 4294967296) (hn : n = b % 90) : ∀ i, i + 1 ≤ n → loBr x b (i + 1) 0 < 16 ∧ loBr x b (i + 1) 1 = n / 256 % 256 ∧ loBr x b (i + 1) 2 = x % 256 ∧ loBr x b (i + 1) 3 = n / 16777216 % 256 ∧ loBr x b (i + 1) 4 = x / 65536 % 256 ∧ loBr x b (i + 1) 5 = n / 65536 % 256 ∧ loBr x b (i + 1) 6 = x / 256 % 256 ∧ loBr x b (i + 1) 7 = n % 256 ∧ loBr x b (i + 1) 8 = x / 16777216 % 256 ∧ loBr x b (i + 1) 9 = sm x (i + 1) ∧ loBr x b (i + 1) 10 = n - (i + 1) ∧ loBr x b (i + 1) 11 = 11 * (i + 1) + 2
  | 0, h => loB_i1 hx hb hn h
  | i + 1, h => by
    obtain ⟨e0, e1, e2, e3, e4, e5, e6, e7, e8, e9, e10, e11⟩ := loB_inv hx hb hn i (by omega)
    have hl := sm_lt x (i + 1)
    have hK : evW (loBr x b (i + 1)) [.v 10 0 32] = n - (i + 1) := by simp only [evW, Seg.val, Seg.w, e1, e2, e3, e4, e5, e6, e7, e8, e9, e10, e11] <;> (clear e1 e2 e3 e4 e5 e6 e7 e8 e9 e10 e11; omega)
    have hs : sm x (i + 1 + 1) = (sm x (i + 1) + x) % 4294967296 := rfl
    obtain ⟨c, hc⟩ : ∃ c, c = 11 * (i + 1) + 2 := ⟨_, rfl⟩
    rw [← hc] at e11
    have hc1 : c ≤ 1100 := by omega
    have ht : 11 * (i + 1 + 1) + 2 = c + 11 := by omega
    refine ⟨?_, ?_, ?_, ?_, ?_, ?_, ?_, ?_, ?_, ?_, ?_, ?_⟩
    · show evW (loBr x b (i + 1)) [.g .sub .u64 [.p [.v 9 0 32] [.v 2 0 8, .v 6 0 8, .v 4 0 8, .v 8 0 8] 0 32] [.k 1 1] 63 1, .g .sub .u64 [] [.k 0 31, .p [.v 9 0 32] [.v 2 0 8, .v 6 0 8, .v 4 0 8, .v 8 0 8] 31 1] 63 1, .g .sub .u64 [.p [.v 9 0 32] [.v 2 0 8, .v 6 0 8, .v 4 0 8, .v 8 0 8] 0 32] [.v 9 0 32] 63 1, .g .sub .u64 [] [.k 0 31, .g .and .u32 [.g .xor .u32 [.v 9 0 32] [.p [.v 9 0 32] [.v 2 0 8, .v 6 0 8, .v 4 0 8, .v 8 0 8] 0 32] 0 32] [.g .xor .u32 [.v 2 0 8, .v 6 0 8, .v 4 0 8, .v 8 0 8] [.p [.v 9 0 32] [.v 2 0 8, .v 6 0 8, .v 4 0 8, .v 8 0 8] 0 32] 0 32] 31 1] 63 1] < 16
      exact fl16 (by decide)
    · show evW (loBr x b (i + 1)) [.v 1 0 8] = _
      simp only [evW, Seg.val, Seg.w, e1, e2, e3, e4, e5, e6, e7, e8, e9, e10, e11] <;> (clear e1 e2 e3 e4 e5 e6 e7 e8 e9 e10 e11; omega)
    · show evW (loBr x b (i + 1)) [.v 2 0 8] = _
      simp only [evW, Seg.val, Seg.w, e1, e2, e3, e4, e5, e6, e7, e8, e9, e10, e11] <;> (clear e1 e2 e3 e4 e5 e6 e7 e8 e9 e10 e11; omega)
    · show evW (loBr x b (i + 1)) [.v 3 0 8] = _
      simp only [evW, Seg.val, Seg.w, e1, e2, e3, e4, e5, e6, e7, e8, e9, e10, e11] <;> (clear e1 e2 e3 e4 e5 e6 e7 e8 e9 e10 e11; omega)
    · show evW (loBr x b (i + 1)) [.v 4 0 8] = _
      simp only [evW, Seg.val, Seg.w, e1, e2, e3, e4, e5, e6, e7, e8, e9, e10, e11] <;> (clear e1 e2 e3 e4 e5 e6 e7 e8 e9 e10 e11; omega)
    · show evW (loBr x b (i + 1)) [.v 5 0 8] = _
      simp only [evW, Seg.val, Seg.w, e1, e2, e3, e4, e5, e6, e7, e8, e9, e10, e11] <;> (clear e1 e2 e3 e4 e5 e6 e7 e8 e9 e10 e11; omega)
    · show evW (loBr x b (i + 1)) [.v 6 0 8] = _
      simp only [evW, Seg.val, Seg.w, e1, e2, e3, e4, e5, e6, e7, e8, e9, e10, e11] <;> (clear e1 e2 e3 e4 e5 e6 e7 e8 e9 e10 e11; omega)
    · show evW (loBr x b (i + 1)) [.v 7 0 8] = _
      simp only [evW, Seg.val, Seg.w, e1, e2, e3, e4, e5, e6, e7, e8, e9, e10, e11] <;> (clear e1 e2 e3 e4 e5 e6 e7 e8 e9 e10 e11; omega)
    · show evW (loBr x b (i + 1)) [.v 8 0 8] = _
      simp only [evW, Seg.val, Seg.w, e1, e2, e3, e4, e5, e6, e7, e8, e9, e10, e11] <;> (clear e1 e2 e3 e4 e5 e6 e7 e8 e9 e10 e11; omega)
    · show evW (loBr x b (i + 1)) [.p [.v 9 0 32] [.v 2 0 8, .v 6 0 8, .v 4 0 8, .v 8 0 8] 0 32] = _
      rw [hs]; simp only [evW, Seg.val, Seg.w, e1, e2, e3, e4, e5, e6, e7, e8, e9, e10, e11] <;> (clear e1 e2 e3 e4 e5 e6 e7 e8 e9 e10 e11; omega)
    · show evW (loBr x b (i + 1)) [.g .sub .u32 [.v 10 0 32] [.k 1 1] 0 32] = _
      rw [sub1_32 hK (by omega) (by omega)]; omega
    · show evW (loBr x b (i + 1)) [.p [.v 11 0 64] [.k 11 4] 0 64] = _
      rw [ht]; clear ht hc hs hl hK h hn; simp only [evW, Seg.val, Seg.w, e1, e2, e3, e4, e5, e6, e7, e8, e9, e10, e11] <;> (clear e1 e2 e3 e4 e5 e6 e7 e8 e9 e10 e11; omega)
theorem loBk_p0 {x b n : Nat} (hx : x < 4294967296) (hb : b < 4294967296) (hn : n = b % 90) (h1 : 1 ≤ n) : Rn8 (loBSt x b 0) (loBSt x b 1) := by
  obtain ⟨e0, e1, e2, e3, e4, e5, e6, e7⟩ := loB_s hx hb hn
  intro Y hY
  refine runP_call loB_p0 (ρ := loBr x b 0) (ρ' := loBr x b 1) ?_ ?_ hY
  · refine (all2 (asm_ne ?_) (all2 (asm_eq ?_) all0)) <;> (simp only [evW, Seg.val, Seg.w, e0, e1, e2, e3, e4, e5, e6, e7] <;> (clear e0 e1 e2 e3 e4 e5 e6 e7; omega))
  · refine (all2 rfl (all2 rfl (all2 rfl (all2 rfl (all2 rfl (all2 rfl (all2 rfl (all2 rfl (all2 rfl (all2 rfl (all2 rfl (all2 rfl all0))))))))))))
theorem loBk_pg {x b n : Nat} (hx : x < 4294967296) (hb : b < 4294967296) (hn : n = b % 90) {i : Nat} (h1 : i + 1 + 1 ≤ n) : Rn8 (loBSt x b (i + 1)) (loBSt x b (i + 1 + 1)) := by
  obtain ⟨e0, e1, e2, e3, e4, e5, e6, e7, e8, e9, e10, e11⟩ := loB_inv hx hb hn i (by omega)
  have hl := sm_lt x (i + 1)
  obtain ⟨c, hc⟩ : ∃ c, c = 11 * (i + 1) + 2 := ⟨_, rfl⟩
  rw [← hc] at e11
  have hc1 : c ≤ 1100 := by omega
  have ht : 11 * (i + 1 + 1) + 2 = c + 11 := by omega
  clear ht hc
  intro Y hY
  refine runP_call loB_pg (ρ := loBr x b (i + 1)) (ρ' := loBr x b (i + 1 + 1)) ?_ ?_ hY
  · refine (all2 (asm_ne ?_) (all2 (asm_eq ?_) all0)) <;> (simp only [evW, Seg.val, Seg.w, e1, e2, e3, e4, e5, e6, e7, e8, e9, e10, e11] <;> (clear e1 e2 e3 e4 e5 e6 e7 e8 e9 e10 e11; omega))
  · refine (all2 rfl (all2 rfl (all2 rfl (all2 rfl (all2 rfl (all2 rfl (all2 rfl (all2 rfl (all2 rfl (all2 rfl (all2 rfl (all2 rfl all0))))))))))))
theorem loBk_z0 {x b n : Nat} (hx : x < 4294967296) (hb : b < 4294967296) (hn : n = b % 90) (h1 : 0 = n)  : Rn8 (loBSt x b 0) (tbH loBZ (loZ x b n)) := by
  obtain ⟨e0, e1, e2, e3, e4, e5, e6, e7⟩ := loB_s hx hb hn
  have f10 : loZ x b n 10 = 1 := rfl
  have f30 : loZ x b n 30 = 11 * n + 10 := rfl
  have f11 : loZ x b n 11 = n / 256 % 256 := rfl
  have f12 : loZ x b n 12 = x % 256 := rfl
  have f13 : loZ x b n 13 = n / 16777216 % 256 := rfl
  have f14 : loZ x b n 14 = x / 65536 % 256 := rfl
  have f15 : loZ x b n 15 = n / 65536 % 256 := rfl
  have f16 : loZ x b n 16 = x / 256 % 256 := rfl
  have f17 : loZ x b n 17 = n % 256 := rfl
  have f18 : loZ x b n 18 = x / 16777216 % 256 := rfl
  intro Y hY
  refine runP_call loB_z0 (ρ := loBr x b 0) (ρ' := loZ x b n) ?_ ?_ hY
  · refine (all2 (asm_eq ?_) (all2 (asm_eq ?_) (all2 (asm_eq ?_) (all2 (asm_eq ?_) (all2 (asm_eq ?_) all0))))) <;> (simp only [evW, Seg.val, Seg.w, e0, e1, e2, e3, e4, e5, e6, e7] <;> (clear e0 e1 e2 e3 e4 e5 e6 e7; omega))
  · refine (all2 ?_ (all2 ?_ (all2 ?_ (all2 ?_ (all2 ?_ (all2 ?_ (all2 ?_ (all2 ?_ (all2 ?_ (all2 ?_ all0))))))))))
    · show loZ x b n 10 = _
      rw [f10]
      exact (flz (w := [.k 0 31, .v 2 7 1]) (by simp only [evW, Seg.val, Seg.w, e0, e1, e2, e3, e4, e5, e6, e7] <;> (clear e0 e1 e2 e3 e4 e5 e6 e7; omega))).symm
    · show loZ x b n 11 = _
      rw [f11]; simp only [evW, Seg.val, Seg.w, e0, e1, e2, e3, e4, e5, e6, e7] <;> (clear e0 e1 e2 e3 e4 e5 e6 e7; omega)
    · show loZ x b n 12 = _
      rw [f12]; simp only [evW, Seg.val, Seg.w, e0, e1, e2, e3, e4, e5, e6, e7] <;> (clear e0 e1 e2 e3 e4 e5 e6 e7; omega)
    · show loZ x b n 13 = _
      rw [f13]; simp only [evW, Seg.val, Seg.w, e0, e1, e2, e3, e4, e5, e6, e7] <;> (clear e0 e1 e2 e3 e4 e5 e6 e7; omega)
    · show loZ x b n 14 = _
      rw [f14]; simp only [evW, Seg.val, Seg.w, e0, e1, e2, e3, e4, e5, e6, e7] <;> (clear e0 e1 e2 e3 e4 e5 e6 e7; omega)
    · show loZ x b n 15 = _
      rw [f15]; simp only [evW, Seg.val, Seg.w, e0, e1, e2, e3, e4, e5, e6, e7] <;> (clear e0 e1 e2 e3 e4 e5 e6 e7; omega)
    · show loZ x b n 16 = _
      rw [f16]; simp only [evW, Seg.val, Seg.w, e0, e1, e2, e3, e4, e5, e6, e7] <;> (clear e0 e1 e2 e3 e4 e5 e6 e7; omega)
    · show loZ x b n 17 = _
      rw [f17]; simp only [evW, Seg.val, Seg.w, e0, e1, e2, e3, e4, e5, e6, e7] <;> (clear e0 e1 e2 e3 e4 e5 e6 e7; omega)
    · show loZ x b n 18 = _
      rw [f18]; simp only [evW, Seg.val, Seg.w, e0, e1, e2, e3, e4, e5, e6, e7] <;> (clear e0 e1 e2 e3 e4 e5 e6 e7; omega)
    · show loZ x b n 30 = _
      rw [f30]; simp only [evW, Seg.val, Seg.w, e0, e1, e2, e3, e4, e5, e6, e7] <;> (clear e0 e1 e2 e3 e4 e5 e6 e7; omega)
theorem loBk_zG {x b n : Nat} (hx : x < 4294967296) (hb : b < 4294967296) (hn : n = b % 90) {i : Nat} (h1 : i + 1 = n) (hz : sm x n = 0) : Rn8 (loBSt x b (i + 1)) (tbH loBZ (loZ x b n)) := by
  obtain ⟨e0, e1, e2, e3, e4, e5, e6, e7, e8, e9, e10, e11⟩ := loB_inv hx hb hn i (by omega)
  have hl := sm_lt x (i + 1)
  have f10 : loZ x b n 10 = 1 := rfl
  have f30 : loZ x b n 30 = 11 * n + 10 := rfl
  have f11 : loZ x b n 11 = n / 256 % 256 := rfl
  have f12 : loZ x b n 12 = x % 256 := rfl
  have f13 : loZ x b n 13 = n / 16777216 % 256 := rfl
  have f14 : loZ x b n 14 = x / 65536 % 256 := rfl
  have f15 : loZ x b n 15 = n / 65536 % 256 := rfl
  have f16 : loZ x b n 16 = x / 256 % 256 := rfl
  have f17 : loZ x b n 17 = n % 256 := rfl
  have f18 : loZ x b n 18 = x / 16777216 % 256 := rfl
  have hsm : sm x (i + 1) = sm x n := by rw [h1]
  rw [hsm] at e9
  intro Y hY
  refine runP_call loB_zG (ρ := loBr x b (i + 1)) (ρ' := loZ x b n) ?_ ?_ hY
  · refine (all2 (asm_eq ?_) (all2 (asm_eq ?_) (all2 (asm_eq ?_) (all2 (asm_eq ?_) (all2 (asm_eq ?_) (all2 (asm_eq ?_) all0)))))) <;> (simp only [evW, Seg.val, Seg.w, e1, e2, e3, e4, e5, e6, e7, e8, e9, e10, e11] <;> (clear e1 e2 e3 e4 e5 e6 e7 e8 e9 e10 e11; omega))
  · refine (all2 ?_ (all2 ?_ (all2 ?_ (all2 ?_ (all2 ?_ (all2 ?_ (all2 ?_ (all2 ?_ (all2 ?_ (all2 ?_ all0))))))))))
    · show loZ x b n 10 = _
      rw [f10]
      exact (flz (w := [.k 0 31, .v 10 31 1]) (by simp only [evW, Seg.val, Seg.w, e1, e2, e3, e4, e5, e6, e7, e8, e9, e10, e11] <;> (clear e1 e2 e3 e4 e5 e6 e7 e8 e9 e10 e11; omega))).symm
    · show loZ x b n 11 = _
      rw [f11]; simp only [evW, Seg.val, Seg.w, e1, e2, e3, e4, e5, e6, e7, e8, e9, e10, e11] <;> (clear e1 e2 e3 e4 e5 e6 e7 e8 e9 e10 e11; omega)
    · show loZ x b n 12 = _
      rw [f12]; simp only [evW, Seg.val, Seg.w, e1, e2, e3, e4, e5, e6, e7, e8, e9, e10, e11] <;> (clear e1 e2 e3 e4 e5 e6 e7 e8 e9 e10 e11; omega)
    · show loZ x b n 13 = _
      rw [f13]; simp only [evW, Seg.val, Seg.w, e1, e2, e3, e4, e5, e6, e7, e8, e9, e10, e11] <;> (clear e1 e2 e3 e4 e5 e6 e7 e8 e9 e10 e11; omega)
    · show loZ x b n 14 = _
      rw [f14]; simp only [evW, Seg.val, Seg.w, e1, e2, e3, e4, e5, e6, e7, e8, e9, e10, e11] <;> (clear e1 e2 e3 e4 e5 e6 e7 e8 e9 e10 e11; omega)
    · show loZ x b n 15 = _
      rw [f15]; simp only [evW, Seg.val, Seg.w, e1, e2, e3, e4, e5, e6, e7, e8, e9, e10, e11] <;> (clear e1 e2 e3 e4 e5 e6 e7 e8 e9 e10 e11; omega)
    · show loZ x b n 16 = _
      rw [f16]; simp only [evW, Seg.val, Seg.w, e1, e2, e3, e4, e5, e6, e7, e8, e9, e10, e11] <;> (clear e1 e2 e3 e4 e5 e6 e7 e8 e9 e10 e11; omega)
    · show loZ x b n 17 = _
      rw [f17]; simp only [evW, Seg.val, Seg.w, e1, e2, e3, e4, e5, e6, e7, e8, e9, e10, e11] <;> (clear e1 e2 e3 e4 e5 e6 e7 e8 e9 e10 e11; omega)
    · show loZ x b n 18 = _
      rw [f18]; simp only [evW, Seg.val, Seg.w, e1, e2, e3, e4, e5, e6, e7, e8, e9, e10, e11] <;> (clear e1 e2 e3 e4 e5 e6 e7 e8 e9 e10 e11; omega)
    · show loZ x b n 30 = _
      rw [f30]; simp only [evW, Seg.val, Seg.w, e1, e2, e3, e4, e5, e6, e7, e8, e9, e10, e11] <;> (clear e1 e2 e3 e4 e5 e6 e7 e8 e9 e10 e11; omega)
theorem loBk_mG0 {x b n : Nat} (hx : x < 4294967296) (hb : b < 4294967296) (hn : n = b % 90) {i : Nat} (h1 : i + 1 = n) (q0 : sm x n / 1 % 256 ≠ 0) : Rn8 (loBSt x b (i + 1)) (tbH loBM (loM x b n)) := by
  obtain ⟨e0, e1, e2, e3, e4, e5, e6, e7, e8, e9, e10, e11⟩ := loB_inv hx hb hn i (by omega)
  have hl := sm_lt x (i + 1)
  have f10 : loM x b n 10 = 1 := rfl
  have f30 : loM x b n 30 = 11 * n + 10 := rfl
  have f11 : loM x b n 11 = n / 256 % 256 := rfl
  have f12 : loM x b n 12 = sm x n / 16777216 % 256 := rfl
  have f13 : loM x b n 13 = x % 256 := rfl
  have f14 : loM x b n 14 = n / 16777216 % 256 := rfl
  have f15 : loM x b n 15 = sm x n / 256 % 256 := rfl
  have f16 : loM x b n 16 = x / 65536 % 256 := rfl
  have f17 : loM x b n 17 = n / 65536 % 256 := rfl
  have f18 : loM x b n 18 = sm x n % 256 := rfl
  have f19 : loM x b n 19 = x / 256 % 256 := rfl
  have f20 : loM x b n 20 = sm x n / 65536 % 256 := rfl
  have f21 : loM x b n 21 = n % 256 := rfl
  have f22 : loM x b n 22 = x / 16777216 % 256 := rfl
  have hsm : sm x (i + 1) = sm x n := by rw [h1]
  rw [hsm] at e9
  intro Y hY
  refine runP_call loB_mG0 (ρ := loBr x b (i + 1)) (ρ' := loM x b n) ?_ ?_ hY
  · refine (all2 (asm_eq ?_) (all2 (asm_ne ?_) all0)) <;> (simp only [evW, Seg.val, Seg.w, e1, e2, e3, e4, e5, e6, e7, e8, e9, e10, e11] <;> (clear e1 e2 e3 e4 e5 e6 e7 e8 e9 e10 e11; omega))
  · refine (all2 ?_ (all2 ?_ (all2 ?_ (all2 ?_ (all2 ?_ (all2 ?_ (all2 ?_ (all2 ?_ (all2 ?_ (all2 ?_ (all2 ?_ (all2 ?_ (all2 ?_ (all2 ?_ all0))))))))))))))
    · show loM x b n 10 = _
      rw [f10]
      exact (flz (w := [.k 0 31, .v 10 31 1]) (by simp only [evW, Seg.val, Seg.w, e1, e2, e3, e4, e5, e6, e7, e8, e9, e10, e11] <;> (clear e1 e2 e3 e4 e5 e6 e7 e8 e9 e10 e11; omega))).symm
    · show loM x b n 11 = _
      rw [f11]; simp only [evW, Seg.val, Seg.w, e1, e2, e3, e4, e5, e6, e7, e8, e9, e10, e11] <;> (clear e1 e2 e3 e4 e5 e6 e7 e8 e9 e10 e11; omega)
    · show loM x b n 12 = _
      rw [f12]; simp only [evW, Seg.val, Seg.w, e1, e2, e3, e4, e5, e6, e7, e8, e9, e10, e11] <;> (clear e1 e2 e3 e4 e5 e6 e7 e8 e9 e10 e11; omega)
    · show loM x b n 13 = _
      rw [f13]; simp only [evW, Seg.val, Seg.w, e1, e2, e3, e4, e5, e6, e7, e8, e9, e10, e11] <;> (clear e1 e2 e3 e4 e5 e6 e7 e8 e9 e10 e11; omega)
    · show loM x b n 14 = _
      rw [f14]; simp only [evW, Seg.val, Seg.w, e1, e2, e3, e4, e5, e6, e7, e8, e9, e10, e11] <;> (clear e1 e2 e3 e4 e5 e6 e7 e8 e9 e10 e11; omega)
    · show loM x b n 15 = _
      rw [f15]; simp only [evW, Seg.val, Seg.w, e1, e2, e3, e4, e5, e6, e7, e8, e9, e10, e11] <;> (clear e1 e2 e3 e4 e5 e6 e7 e8 e9 e10 e11; omega)
    · show loM x b n 16 = _
      rw [f16]; simp only [evW, Seg.val, Seg.w, e1, e2, e3, e4, e5, e6, e7, e8, e9, e10, e11] <;> (clear e1 e2 e3 e4 e5 e6 e7 e8 e9 e10 e11; omega)
    · show loM x b n 17 = _
      rw [f17]; simp only [evW, Seg.val, Seg.w, e1, e2, e3, e4, e5, e6, e7, e8, e9, e10, e11] <;> (clear e1 e2 e3 e4 e5 e6 e7 e8 e9 e10 e11; omega)
    · show loM x b n 18 = _
      rw [f18]; simp only [evW, Seg.val, Seg.w, e1, e2, e3, e4, e5, e6, e7, e8, e9, e10, e11] <;> (clear e1 e2 e3 e4 e5 e6 e7 e8 e9 e10 e11; omega)
    · show loM x b n 19 = _
      rw [f19]; simp only [evW, Seg.val, Seg.w, e1, e2, e3, e4, e5, e6, e7, e8, e9, e10, e11] <;> (clear e1 e2 e3 e4 e5 e6 e7 e8 e9 e10 e11; omega)
    · show loM x b n 20 = _
      rw [f20]; simp only [evW, Seg.val, Seg.w, e1, e2, e3, e4, e5, e6, e7, e8, e9, e10, e11] <;> (clear e1 e2 e3 e4 e5 e6 e7 e8 e9 e10 e11; omega)
    · show loM x b n 21 = _
      rw [f21]; simp only [evW, Seg.val, Seg.w, e1, e2, e3, e4, e5, e6, e7, e8, e9, e10, e11] <;> (clear e1 e2 e3 e4 e5 e6 e7 e8 e9 e10 e11; omega)
    · show loM x b n 22 = _
      rw [f22]; simp only [evW, Seg.val, Seg.w, e1, e2, e3, e4, e5, e6, e7, e8, e9, e10, e11] <;> (clear e1 e2 e3 e4 e5 e6 e7 e8 e9 e10 e11; omega)
    · show loM x b n 30 = _
      rw [f30]; simp only [evW, Seg.val, Seg.w, e1, e2, e3, e4, e5, e6, e7, e8, e9, e10, e11] <;> (clear e1 e2 e3 e4 e5 e6 e7 e8 e9 e10 e11; omega)
theorem loBk_mG1 {x b n : Nat} (hx : x < 4294967296) (hb : b < 4294967296) (hn : n = b % 90) {i : Nat} (h1 : i + 1 = n) (q0 : sm x n / 1 % 256 = 0) (q1 : sm x n / 256 % 256 ≠ 0) : Rn8 (loBSt x b (i + 1)) (tbH loBM (loM x b n)) := by
  obtain ⟨e0, e1, e2, e3, e4, e5, e6, e7, e8, e9, e10, e11⟩ := loB_inv hx hb hn i (by omega)
  have hl := sm_lt x (i + 1)
  have f10 : loM x b n 10 = 1 := rfl
  have f30 : loM x b n 30 = 11 * n + 10 := rfl
  have f11 : loM x b n 11 = n / 256 % 256 := rfl
  have f12 : loM x b n 12 = sm x n / 16777216 % 256 := rfl
  have f13 : loM x b n 13 = x % 256 := rfl
  have f14 : loM x b n 14 = n / 16777216 % 256 := rfl
  have f15 : loM x b n 15 = sm x n / 256 % 256 := rfl
  have f16 : loM x b n 16 = x / 65536 % 256 := rfl
  have f17 : loM x b n 17 = n / 65536 % 256 := rfl
  have f18 : loM x b n 18 = sm x n % 256 := rfl
  have f19 : loM x b n 19 = x / 256 % 256 := rfl
  have f20 : loM x b n 20 = sm x n / 65536 % 256 := rfl
  have f21 : loM x b n 21 = n % 256 := rfl
  have f22 : loM x b n 22 = x / 16777216 % 256 := rfl
  have hsm : sm x (i + 1) = sm x n := by rw [h1]
  rw [hsm] at e9
  intro Y hY
  refine runP_call loB_mG1 (ρ := loBr x b (i + 1)) (ρ' := loM x b n) ?_ ?_ hY
  · refine (all2 (asm_eq ?_) (all2 (asm_eq ?_) (all2 (asm_ne ?_) all0))) <;> (simp only [evW, Seg.val, Seg.w, e1, e2, e3, e4, e5, e6, e7, e8, e9, e10, e11] <;> (clear e1 e2 e3 e4 e5 e6 e7 e8 e9 e10 e11; omega))
  · refine (all2 ?_ (all2 ?_ (all2 ?_ (all2 ?_ (all2 ?_ (all2 ?_ (all2 ?_ (all2 ?_ (all2 ?_ (all2 ?_ (all2 ?_ (all2 ?_ (all2 ?_ (all2 ?_ all0))))))))))))))
    · show loM x b n 10 = _
      rw [f10]
      exact (flz (w := [.k 0 31, .v 10 31 1]) (by simp only [evW, Seg.val, Seg.w, e1, e2, e3, e4, e5, e6, e7, e8, e9, e10, e11] <;> (clear e1 e2 e3 e4 e5 e6 e7 e8 e9 e10 e11; omega))).symm
    · show loM x b n 11 = _
      rw [f11]; simp only [evW, Seg.val, Seg.w, e1, e2, e3, e4, e5, e6, e7, e8, e9, e10, e11] <;> (clear e1 e2 e3 e4 e5 e6 e7 e8 e9 e10 e11; omega)
    · show loM x b n 12 = _
      rw [f12]; simp only [evW, Seg.val, Seg.w, e1, e2, e3, e4, e5, e6, e7, e8, e9, e10, e11] <;> (clear e1 e2 e3 e4 e5 e6 e7 e8 e9 e10 e11; omega)
    · show loM x b n 13 = _
      rw [f13]; simp only [evW, Seg.val, Seg.w, e1, e2, e3, e4, e5, e6, e7, e8, e9, e10, e11] <;> (clear e1 e2 e3 e4 e5 e6 e7 e8 e9 e10 e11; omega)
    · show loM x b n 14 = _
      rw [f14]; simp only [evW, Seg.val, Seg.w, e1, e2, e3, e4, e5, e6, e7, e8, e9, e10, e11] <;> (clear e1 e2 e3 e4 e5 e6 e7 e8 e9 e10 e11; omega)
    · show loM x b n 15 = _
      rw [f15]; simp only [evW, Seg.val, Seg.w, e1, e2, e3, e4, e5, e6, e7, e8, e9, e10, e11] <;> (clear e1 e2 e3 e4 e5 e6 e7 e8 e9 e10 e11; omega)
    · show loM x b n 16 = _
      rw [f16]; simp only [evW, Seg.val, Seg.w, e1, e2, e3, e4, e5, e6, e7, e8, e9, e10, e11] <;> (clear e1 e2 e3 e4 e5 e6 e7 e8 e9 e10 e11; omega)
    · show loM x b n 17 = _
      rw [f17]; simp only [evW, Seg.val, Seg.w, e1, e2, e3, e4, e5, e6, e7, e8, e9, e10, e11] <;> (clear e1 e2 e3 e4 e5 e6 e7 e8 e9 e10 e11; omega)
    · show loM x b n 18 = _
      rw [f18]; simp only [evW, Seg.val, Seg.w, e1, e2, e3, e4, e5, e6, e7, e8, e9, e10, e11] <;> (clear e1 e2 e3 e4 e5 e6 e7 e8 e9 e10 e11; omega)
    · show loM x b n 19 = _
      rw [f19]; simp only [evW, Seg.val, Seg.w, e1, e2, e3, e4, e5, e6, e7, e8, e9, e10, e11] <;> (clear e1 e2 e3 e4 e5 e6 e7 e8 e9 e10 e11; omega)
    · show loM x b n 20 = _
      rw [f20]; simp only [evW, Seg.val, Seg.w, e1, e2, e3, e4, e5, e6, e7, e8, e9, e10, e11] <;> (clear e1 e2 e3 e4 e5 e6 e7 e8 e9 e10 e11; omega)
    · show loM x b n 21 = _
      rw [f21]; simp only [evW, Seg.val, Seg.w, e1, e2, e3, e4, e5, e6, e7, e8, e9, e10, e11] <;> (clear e1 e2 e3 e4 e5 e6 e7 e8 e9 e10 e11; omega)
    · show loM x b n 22 = _
      rw [f22]; simp only [evW, Seg.val, Seg.w, e1, e2, e3, e4, e5, e6, e7, e8, e9, e10, e11] <;> (clear e1 e2 e3 e4 e5 e6 e7 e8 e9 e10 e11; omega)
    · show loM x b n 30 = _
      rw [f30]; simp only [evW, Seg.val, Seg.w, e1, e2, e3, e4, e5, e6, e7, e8, e9, e10, e11] <;> (clear e1 e2 e3 e4 e5 e6 e7 e8 e9 e10 e11; omega)
theorem loBk_mG2 {x b n : Nat} (hx : x < 4294967296) (hb : b < 4294967296) (hn : n = b % 90) {i : Nat} (h1 : i + 1 = n) (q0 : sm x n / 1 % 256 = 0) (q1 : sm x n / 256 % 256 = 0) (q2 : sm x n / 65536 % 256 ≠ 0) : Rn8 (loBSt x b (i + 1)) (tbH loBM (loM x b n)) := by
  obtain ⟨e0, e1, e2, e3, e4, e5, e6, e7, e8, e9, e10, e11⟩ := loB_inv hx hb hn i (by omega)
  have hl := sm_lt x (i + 1)
  have f10 : loM x b n 10 = 1 := rfl
  have f30 : loM x b n 30 = 11 * n + 10 := rfl
  have f11 : loM x b n 11 = n / 256 % 256 := rfl
  have f12 : loM x b n 12 = sm x n / 16777216 % 256 := rfl
  have f13 : loM x b n 13 = x % 256 := rfl
  have f14 : loM x b n 14 = n / 16777216 % 256 := rfl
  have f15 : loM x b n 15 = sm x n / 256 % 256 := rfl
  have f16 : loM x b n 16 = x / 65536 % 256 := rfl
  have f17 : loM x b n 17 = n / 65536 % 256 := rfl
  have f18 : loM x b n 18 = sm x n % 256 := rfl
  have f19 : loM x b n 19 = x / 256 % 256 := rfl
  have f20 : loM x b n 20 = sm x n / 65536 % 256 := rfl
  have f21 : loM x b n 21 = n % 256 := rfl
  have f22 : loM x b n 22 = x / 16777216 % 256 := rfl
  have hsm : sm x (i + 1) = sm x n := by rw [h1]
  rw [hsm] at e9
  intro Y hY
  refine runP_call loB_mG2 (ρ := loBr x b (i + 1)) (ρ' := loM x b n) ?_ ?_ hY
  · refine (all2 (asm_eq ?_) (all2 (asm_eq ?_) (all2 (asm_eq ?_) (all2 (asm_ne ?_) all0)))) <;> (simp only [evW, Seg.val, Seg.w, e1, e2, e3, e4, e5, e6, e7, e8, e9, e10, e11] <;> (clear e1 e2 e3 e4 e5 e6 e7 e8 e9 e10 e11; omega))
  · refine (all2 ?_ (all2 ?_ (all2 ?_ (all2 ?_ (all2 ?_ (all2 ?_ (all2 ?_ (all2 ?_ (all2 ?_ (all2 ?_ (all2 ?_ (all2 ?_ (all2 ?_ (all2 ?_ all0))))))))))))))
    · show loM x b n 10 = _
      rw [f10]
      exact (flz (w := [.k 0 31, .v 10 31 1]) (by simp only [evW, Seg.val, Seg.w, e1, e2, e3, e4, e5, e6, e7, e8, e9, e10, e11] <;> (clear e1 e2 e3 e4 e5 e6 e7 e8 e9 e10 e11; omega))).symm
    · show loM x b n 11 = _
      rw [f11]; simp only [evW, Seg.val, Seg.w, e1, e2, e3, e4, e5, e6, e7, e8, e9, e10, e11] <;> (clear e1 e2 e3 e4 e5 e6 e7 e8 e9 e10 e11; omega)
    · show loM x b n 12 = _
      rw [f12]; simp only [evW, Seg.val, Seg.w, e1, e2, e3, e4, e5, e6, e7, e8, e9, e10, e11] <;> (clear e1 e2 e3 e4 e5 e6 e7 e8 e9 e10 e11; omega)
    · show loM x b n 13 = _
      rw [f13]; simp only [evW, Seg.val, Seg.w, e1, e2, e3, e4, e5, e6, e7, e8, e9, e10, e11] <;> (clear e1 e2 e3 e4 e5 e6 e7 e8 e9 e10 e11; omega)
    · show loM x b n 14 = _
      rw [f14]; simp only [evW, Seg.val, Seg.w, e1, e2, e3, e4, e5, e6, e7, e8, e9, e10, e11] <;> (clear e1 e2 e3 e4 e5 e6 e7 e8 e9 e10 e11; omega)
    · show loM x b n 15 = _
      rw [f15]; simp only [evW, Seg.val, Seg.w, e1, e2, e3, e4, e5, e6, e7, e8, e9, e10, e11] <;> (clear e1 e2 e3 e4 e5 e6 e7 e8 e9 e10 e11; omega)
    · show loM x b n 16 = _
      rw [f16]; simp only [evW, Seg.val, Seg.w, e1, e2, e3, e4, e5, e6, e7, e8, e9, e10, e11] <;> (clear e1 e2 e3 e4 e5 e6 e7 e8 e9 e10 e11; omega)
    · show loM x b n 17 = _
      rw [f17]; simp only [evW, Seg.val, Seg.w, e1, e2, e3, e4, e5, e6, e7, e8, e9, e10, e11] <;> (clear e1 e2 e3 e4 e5 e6 e7 e8 e9 e10 e11; omega)
    · show loM x b n 18 = _
      rw [f18]; simp only [evW, Seg.val, Seg.w, e1, e2, e3, e4, e5, e6, e7, e8, e9, e10, e11] <;> (clear e1 e2 e3 e4 e5 e6 e7 e8 e9 e10 e11; omega)
    · show loM x b n 19 = _
      rw [f19]; simp only [evW, Seg.val, Seg.w, e1, e2, e3, e4, e5, e6, e7, e8, e9, e10, e11] <;> (clear e1 e2 e3 e4 e5 e6 e7 e8 e9 e10 e11; omega)
    · show loM x b n 20 = _
      rw [f20]; simp only [evW, Seg.val, Seg.w, e1, e2, e3, e4, e5, e6, e7, e8, e9, e10, e11] <;> (clear e1 e2 e3 e4 e5 e6 e7 e8 e9 e10 e11; omega)
    · show loM x b n 21 = _
      rw [f21]; simp only [evW, Seg.val, Seg.w, e1, e2, e3, e4, e5, e6, e7, e8, e9, e10, e11] <;> (clear e1 e2 e3 e4 e5 e6 e7 e8 e9 e10 e11; omega)
    · show loM x b n 22 = _
      rw [f22]; simp only [evW, Seg.val, Seg.w, e1, e2, e3, e4, e5, e6, e7, e8, e9, e10, e11] <;> (clear e1 e2 e3 e4 e5 e6 e7 e8 e9 e10 e11; omega)
    · show loM x b n 30 = _
      rw [f30]; simp only [evW, Seg.val, Seg.w, e1, e2, e3, e4, e5, e6, e7, e8, e9, e10, e11] <;> (clear e1 e2 e3 e4 e5 e6 e7 e8 e9 e10 e11; omega)
theorem loBk_mG3 {x b n : Nat} (hx : x < 4294967296) (hb : b < 4294967296) (hn : n = b % 90) {i : Nat} (h1 : i + 1 = n) (q0 : sm x n / 1 % 256 = 0) (q1 : sm x n / 256 % 256 = 0) (q2 : sm x n / 65536 % 256 = 0) (q3 : sm x n / 16777216 % 256 ≠ 0) : Rn8 (loBSt x b (i + 1)) (tbH loBM (loM x b n)) := by
  obtain ⟨e0, e1, e2, e3, e4, e5, e6, e7, e8, e9, e10, e11⟩ := loB_inv hx hb hn i (by omega)
  have hl := sm_lt x (i + 1)
  have f10 : loM x b n 10 = 1 := rfl
  have f30 : loM x b n 30 = 11 * n + 10 := rfl
  have f11 : loM x b n 11 = n / 256 % 256 := rfl
  have f12 : loM x b n 12 = sm x n / 16777216 % 256 := rfl
  have f13 : loM x b n 13 = x % 256 := rfl
  have f14 : loM x b n 14 = n / 16777216 % 256 := rfl
  have f15 : loM x b n 15 = sm x n / 256 % 256 := rfl
  have f16 : loM x b n 16 = x / 65536 % 256 := rfl
  have f17 : loM x b n 17 = n / 65536 % 256 := rfl
  have f18 : loM x b n 18 = sm x n % 256 := rfl
  have f19 : loM x b n 19 = x / 256 % 256 := rfl
  have f20 : loM x b n 20 = sm x n / 65536 % 256 := rfl
  have f21 : loM x b n 21 = n % 256 := rfl
  have f22 : loM x b n 22 = x / 16777216 % 256 := rfl
  have hsm : sm x (i + 1) = sm x n := by rw [h1]
  rw [hsm] at e9
  intro Y hY
  refine runP_call loB_mG3 (ρ := loBr x b (i + 1)) (ρ' := loM x b n) ?_ ?_ hY
  · refine (all2 (asm_eq ?_) (all2 (asm_eq ?_) (all2 (asm_eq ?_) (all2 (asm_eq ?_) (all2 (asm_ne ?_) all0))))) <;> (simp only [evW, Seg.val, Seg.w, e1, e2, e3, e4, e5, e6, e7, e8, e9, e10, e11] <;> (clear e1 e2 e3 e4 e5 e6 e7 e8 e9 e10 e11; omega))
  · refine (all2 ?_ (all2 ?_ (all2 ?_ (all2 ?_ (all2 ?_ (all2 ?_ (all2 ?_ (all2 ?_ (all2 ?_ (all2 ?_ (all2 ?_ (all2 ?_ (all2 ?_ (all2 ?_ all0))))))))))))))
    · show loM x b n 10 = _
      rw [f10]
      exact (flz (w := [.k 0 31, .v 10 31 1]) (by simp only [evW, Seg.val, Seg.w, e1, e2, e3, e4, e5, e6, e7, e8, e9, e10, e11] <;> (clear e1 e2 e3 e4 e5 e6 e7 e8 e9 e10 e11; omega))).symm
    · show loM x b n 11 = _
      rw [f11]; simp only [evW, Seg.val, Seg.w, e1, e2, e3, e4, e5, e6, e7, e8, e9, e10, e11] <;> (clear e1 e2 e3 e4 e5 e6 e7 e8 e9 e10 e11; omega)
    · show loM x b n 12 = _
      rw [f12]; simp only [evW, Seg.val, Seg.w, e1, e2, e3, e4, e5, e6, e7, e8, e9, e10, e11] <;> (clear e1 e2 e3 e4 e5 e6 e7 e8 e9 e10 e11; omega)
    · show loM x b n 13 = _
      rw [f13]; simp only [evW, Seg.val, Seg.w, e1, e2, e3, e4, e5, e6, e7, e8, e9, e10, e11] <;> (clear e1 e2 e3 e4 e5 e6 e7 e8 e9 e10 e11; omega)
    · show loM x b n 14 = _
      rw [f14]; simp only [evW, Seg.val, Seg.w, e1, e2, e3, e4, e5, e6, e7, e8, e9, e10, e11] <;> (clear e1 e2 e3 e4 e5 e6 e7 e8 e9 e10 e11; omega)
    · show loM x b n 15 = _
      rw [f15]; simp only [evW, Seg.val, Seg.w, e1, e2, e3, e4, e5, e6, e7, e8, e9, e10, e11] <;> (clear e1 e2 e3 e4 e5 e6 e7 e8 e9 e10 e11; omega)
    · show loM x b n 16 = _
      rw [f16]; simp only [evW, Seg.val, Seg.w, e1, e2, e3, e4, e5, e6, e7, e8, e9, e10, e11] <;> (clear e1 e2 e3 e4 e5 e6 e7 e8 e9 e10 e11; omega)
    · show loM x b n 17 = _
      rw [f17]; simp only [evW, Seg.val, Seg.w, e1, e2, e3, e4, e5, e6, e7, e8, e9, e10, e11] <;> (clear e1 e2 e3 e4 e5 e6 e7 e8 e9 e10 e11; omega)
    · show loM x b n 18 = _
      rw [f18]; simp only [evW, Seg.val, Seg.w, e1, e2, e3, e4, e5, e6, e7, e8, e9, e10, e11] <;> (clear e1 e2 e3 e4 e5 e6 e7 e8 e9 e10 e11; omega)
    · show loM x b n 19 = _
      rw [f19]; simp only [evW, Seg.val, Seg.w, e1, e2, e3, e4, e5, e6, e7, e8, e9, e10, e11] <;> (clear e1 e2 e3 e4 e5 e6 e7 e8 e9 e10 e11; omega)
    · show loM x b n 20 = _
      rw [f20]; simp only [evW, Seg.val, Seg.w, e1, e2, e3, e4, e5, e6, e7, e8, e9, e10, e11] <;> (clear e1 e2 e3 e4 e5 e6 e7 e8 e9 e10 e11; omega)
    · show loM x b n 21 = _
      rw [f21]; simp only [evW, Seg.val, Seg.w, e1, e2, e3, e4, e5, e6, e7, e8, e9, e10, e11] <;> (clear e1 e2 e3 e4 e5 e6 e7 e8 e9 e10 e11; omega)
    · show loM x b n 22 = _
      rw [f22]; simp only [evW, Seg.val, Seg.w, e1, e2, e3, e4, e5, e6, e7, e8, e9, e10, e11] <;> (clear e1 e2 e3 e4 e5 e6 e7 e8 e9 e10 e11; omega)
    · show loM x b n 30 = _
      rw [f30]; simp only [evW, Seg.val, Seg.w, e1, e2, e3, e4, e5, e6, e7, e8, e9, e10, e11] <;> (clear e1 e2 e3 e4 e5 e6 e7 e8 e9 e10 e11; omega)
theorem loBk_l0 {x b n : Nat} (hx : x < 4294967296) (hb : b < 4294967296) (hn : n = b % 90)  : Lk false (loBSt x b 0) := by
  obtain ⟨e0, e1, e2, e3, e4, e5, e6, e7⟩ := loB_s hx hb hn
  intro Y hY
  refine lookP_call loB_l0 (ρ := loBr x b 0) ?_ hY
  refine (all2 ?_ (all2 ?_ (all2 ?_ (all2 ?_ (all2 ?_ (all2 ?_ (all2 ?_ (all2 ?_ all0))))))))
  · show loBr x b 0 0 = _
    simp only [evW, Seg.val, Seg.w, e0, e1, e2, e3, e4, e5, e6, e7] <;> (clear e0 e1 e2 e3 e4 e5 e6 e7; omega)
  · show loBr x b 0 1 = _
    simp only [evW, Seg.val, Seg.w, e0, e1, e2, e3, e4, e5, e6, e7] <;> (clear e0 e1 e2 e3 e4 e5 e6 e7; omega)
  · show loBr x b 0 2 = _
    simp only [evW, Seg.val, Seg.w, e0, e1, e2, e3, e4, e5, e6, e7] <;> (clear e0 e1 e2 e3 e4 e5 e6 e7; omega)
  · show loBr x b 0 3 = _
    simp only [evW, Seg.val, Seg.w, e0, e1, e2, e3, e4, e5, e6, e7] <;> (clear e0 e1 e2 e3 e4 e5 e6 e7; omega)
  · show loBr x b 0 4 = _
    simp only [evW, Seg.val, Seg.w, e0, e1, e2, e3, e4, e5, e6, e7] <;> (clear e0 e1 e2 e3 e4 e5 e6 e7; omega)
  · show loBr x b 0 5 = _
    simp only [evW, Seg.val, Seg.w, e0, e1, e2, e3, e4, e5, e6, e7] <;> (clear e0 e1 e2 e3 e4 e5 e6 e7; omega)
  · show loBr x b 0 6 = _
    simp only [evW, Seg.val, Seg.w, e0, e1, e2, e3, e4, e5, e6, e7] <;> (clear e0 e1 e2 e3 e4 e5 e6 e7; omega)
  · show loBr x b 0 7 = _
    simp only [evW, Seg.val, Seg.w, e0, e1, e2, e3, e4, e5, e6, e7] <;> (clear e0 e1 e2 e3 e4 e5 e6 e7; omega)
theorem loBk_lG {x b n : Nat} (hx : x < 4294967296) (hb : b < 4294967296) (hn : n = b % 90) {i : Nat} (h1 : i + 1 ≤ n) : Lk false (loBSt x b (i + 1)) := by
  obtain ⟨e0, e1, e2, e3, e4, e5, e6, e7, e8, e9, e10, e11⟩ := loB_inv hx hb hn i (by omega)
  have hl := sm_lt x (i + 1)
  intro Y hY
  refine lookP_call loB_lG (ρ := loBr x b (i + 1)) ?_ hY
  refine (all2 ?_ (all2 ?_ (all2 ?_ (all2 ?_ (all2 ?_ (all2 ?_ (all2 ?_ (all2 ?_ (all2 ?_ (all2 ?_ (all2 ?_ (all2 ?_ all0))))))))))))
  · show loBr x b (i + 1) 0 = evW _ [.v 0 0 4]
    simp only [evW, Seg.val, Seg.w]; clear e1 e2 e3 e4 e5 e6 e7 e8 e9 e10 e11; omega
  · show loBr x b (i + 1) 1 = _
    simp only [evW, Seg.val, Seg.w, e1, e2, e3, e4, e5, e6, e7, e8, e9, e10, e11] <;> (clear e1 e2 e3 e4 e5 e6 e7 e8 e9 e10 e11; omega)
  · show loBr x b (i + 1) 2 = _
    simp only [evW, Seg.val, Seg.w, e1, e2, e3, e4, e5, e6, e7, e8, e9, e10, e11] <;> (clear e1 e2 e3 e4 e5 e6 e7 e8 e9 e10 e11; omega)
  · show loBr x b (i + 1) 3 = _
    simp only [evW, Seg.val, Seg.w, e1, e2, e3, e4, e5, e6, e7, e8, e9, e10, e11] <;> (clear e1 e2 e3 e4 e5 e6 e7 e8 e9 e10 e11; omega)
  · show loBr x b (i + 1) 4 = _
    simp only [evW, Seg.val, Seg.w, e1, e2, e3, e4, e5, e6, e7, e8, e9, e10, e11] <;> (clear e1 e2 e3 e4 e5 e6 e7 e8 e9 e10 e11; omega)
  · show loBr x b (i + 1) 5 = _
    simp only [evW, Seg.val, Seg.w, e1, e2, e3, e4, e5, e6, e7, e8, e9, e10, e11] <;> (clear e1 e2 e3 e4 e5 e6 e7 e8 e9 e10 e11; omega)
  · show loBr x b (i + 1) 6 = _
    simp only [evW, Seg.val, Seg.w, e1, e2, e3, e4, e5, e6, e7, e8, e9, e10, e11] <;> (clear e1 e2 e3 e4 e5 e6 e7 e8 e9 e10 e11; omega)
  · show loBr x b (i + 1) 7 = _
    simp only [evW, Seg.val, Seg.w, e1, e2, e3, e4, e5, e6, e7, e8, e9, e10, e11] <;> (clear e1 e2 e3 e4 e5 e6 e7 e8 e9 e10 e11; omega)
  · show loBr x b (i + 1) 8 = _
    simp only [evW, Seg.val, Seg.w, e1, e2, e3, e4, e5, e6, e7, e8, e9, e10, e11] <;> (clear e1 e2 e3 e4 e5 e6 e7 e8 e9 e10 e11; omega)
  · show loBr x b (i + 1) 9 = _
    simp only [evW, Seg.val, Seg.w, e1, e2, e3, e4, e5, e6, e7, e8, e9, e10, e11] <;> (clear e1 e2 e3 e4 e5 e6 e7 e8 e9 e10 e11; omega)
  · show loBr x b (i + 1) 10 = _
    simp only [evW, Seg.val, Seg.w, e1, e2, e3, e4, e5, e6, e7, e8, e9, e10, e11] <;> (clear e1 e2 e3 e4 e5 e6 e7 e8 e9 e10 e11; omega)
  · show loBr x b (i + 1) 11 = _
    simp only [evW, Seg.val, Seg.w, e1, e2, e3, e4, e5, e6, e7, e8, e9, e10, e11] <;> (clear e1 e2 e3 e4 e5 e6 e7 e8 e9 e10 e11; omega)
theorem loBk_lZ {x b n : Nat} (hn : n = b % 90) : Lk true (tbH loBZ (loZ x b n)) := by
  have hl := sm_lt x n
  have f10 : loZ x b n 10 = 1 := rfl
  have f30 : loZ x b n 30 = 11 * n + 10 := rfl
  have f11 : loZ x b n 11 = n / 256 % 256 := rfl
  have f12 : loZ x b n 12 = x % 256 := rfl
  have f13 : loZ x b n 13 = n / 16777216 % 256 := rfl
  have f14 : loZ x b n 14 = x / 65536 % 256 := rfl
  have f15 : loZ x b n 15 = n / 65536 % 256 := rfl
  have f16 : loZ x b n 16 = x / 256 % 256 := rfl
  have f17 : loZ x b n 17 = n % 256 := rfl
  have f18 : loZ x b n 18 = x / 16777216 % 256 := rfl
  intro Y hY
  refine lookP_call loB_lZ (ρ := loZ x b n) ?_ hY
  refine (all2 ?_ (all2 ?_ (all2 ?_ (all2 ?_ (all2 ?_ (all2 ?_ (all2 ?_ (all2 ?_ (all2 ?_ (all2 ?_ all0))))))))))
  · show loZ x b n 10 = _
    simp only [evW, Seg.val, Seg.w, f10, f30, f11, f12, f13, f14, f15, f16, f17, f18] <;> (clear f10 f30 f11 f12 f13 f14 f15 f16 f17 f18; omega)
  · show loZ x b n 11 = _
    simp only [evW, Seg.val, Seg.w, f10, f30, f11, f12, f13, f14, f15, f16, f17, f18] <;> (clear f10 f30 f11 f12 f13 f14 f15 f16 f17 f18; omega)
  · show loZ x b n 12 = _
    simp only [evW, Seg.val, Seg.w, f10, f30, f11, f12, f13, f14, f15, f16, f17, f18] <;> (clear f10 f30 f11 f12 f13 f14 f15 f16 f17 f18; omega)
  · show loZ x b n 13 = _
    simp only [evW, Seg.val, Seg.w, f10, f30, f11, f12, f13, f14, f15, f16, f17, f18] <;> (clear f10 f30 f11 f12 f13 f14 f15 f16 f17 f18; omega)
  · show loZ x b n 14 = _
    simp only [evW, Seg.val, Seg.w, f10, f30, f11, f12, f13, f14, f15, f16, f17, f18] <;> (clear f10 f30 f11 f12 f13 f14 f15 f16 f17 f18; omega)
  · show loZ x b n 15 = _
    simp only [evW, Seg.val, Seg.w, f10, f30, f11, f12, f13, f14, f15, f16, f17, f18] <;> (clear f10 f30 f11 f12 f13 f14 f15 f16 f17 f18; omega)
  · show loZ x b n 16 = _
    simp only [evW, Seg.val, Seg.w, f10, f30, f11, f12, f13, f14, f15, f16, f17, f18] <;> (clear f10 f30 f11 f12 f13 f14 f15 f16 f17 f18; omega)
  · show loZ x b n 17 = _
    simp only [evW, Seg.val, Seg.w, f10, f30, f11, f12, f13, f14, f15, f16, f17, f18] <;> (clear f10 f30 f11 f12 f13 f14 f15 f16 f17 f18; omega)
  · show loZ x b n 18 = _
    simp only [evW, Seg.val, Seg.w, f10, f30, f11, f12, f13, f14, f15, f16, f17, f18] <;> (clear f10 f30 f11 f12 f13 f14 f15 f16 f17 f18; omega)
  · show loZ x b n 30 = _
    simp only [evW, Seg.val, Seg.w, f10, f30, f11, f12, f13, f14, f15, f16, f17, f18] <;> (clear f10 f30 f11 f12 f13 f14 f15 f16 f17 f18; omega)
theorem loBk_lM {x b n : Nat} (hn : n = b % 90) : Lk true (tbH loBM (loM x b n)) := by
  have hl := sm_lt x n
  have f10 : loM x b n 10 = 1 := rfl
  have f30 : loM x b n 30 = 11 * n + 10 := rfl
  have f11 : loM x b n 11 = n / 256 % 256 := rfl
  have f12 : loM x b n 12 = sm x n / 16777216 % 256 := rfl
  have f13 : loM x b n 13 = x % 256 := rfl
  have f14 : loM x b n 14 = n / 16777216 % 256 := rfl
  have f15 : loM x b n 15 = sm x n / 256 % 256 := rfl
  have f16 : loM x b n 16 = x / 65536 % 256 := rfl
  have f17 : loM x b n 17 = n / 65536 % 256 := rfl
  have f18 : loM x b n 18 = sm x n % 256 := rfl
  have f19 : loM x b n 19 = x / 256 % 256 := rfl
  have f20 : loM x b n 20 = sm x n / 65536 % 256 := rfl
  have f21 : loM x b n 21 = n % 256 := rfl
  have f22 : loM x b n 22 = x / 16777216 % 256 := rfl
  intro Y hY
  refine lookP_call loB_lM (ρ := loM x b n) ?_ hY
  refine (all2 ?_ (all2 ?_ (all2 ?_ (all2 ?_ (all2 ?_ (all2 ?_ (all2 ?_ (all2 ?_ (all2 ?_ (all2 ?_ (all2 ?_ (all2 ?_ (all2 ?_ (all2 ?_ all0))))))))))))))
  · show loM x b n 10 = _
    simp only [evW, Seg.val, Seg.w, f10, f30, f11, f12, f13, f14, f15, f16, f17, f18, f19, f20, f21, f22] <;> (clear f10 f30 f11 f12 f13 f14 f15 f16 f17 f18 f19 f20 f21 f22; omega)
  · show loM x b n 11 = _
    simp only [evW, Seg.val, Seg.w, f10, f30, f11, f12, f13, f14, f15, f16, f17, f18, f19, f20, f21, f22] <;> (clear f10 f30 f11 f12 f13 f14 f15 f16 f17 f18 f19 f20 f21 f22; omega)
  · show loM x b n 12 = _
    simp only [evW, Seg.val, Seg.w, f10, f30, f11, f12, f13, f14, f15, f16, f17, f18, f19, f20, f21, f22] <;> (clear f10 f30 f11 f12 f13 f14 f15 f16 f17 f18 f19 f20 f21 f22; omega)
  · show loM x b n 13 = _
    simp only [evW, Seg.val, Seg.w, f10, f30, f11, f12, f13, f14, f15, f16, f17, f18, f19, f20, f21, f22] <;> (clear f10 f30 f11 f12 f13 f14 f15 f16 f17 f18 f19 f20 f21 f22; omega)
  · show loM x b n 14 = _
    simp only [evW, Seg.val, Seg.w, f10, f30, f11, f12, f13, f14, f15, f16, f17, f18, f19, f20, f21, f22] <;> (clear f10 f30 f11 f12 f13 f14 f15 f16 f17 f18 f19 f20 f21 f22; omega)
  · show loM x b n 15 = _
    simp only [evW, Seg.val, Seg.w, f10, f30, f11, f12, f13, f14, f15, f16, f17, f18, f19, f20, f21, f22] <;> (clear f10 f30 f11 f12 f13 f14 f15 f16 f17 f18 f19 f20 f21 f22; omega)
  · show loM x b n 16 = _
    simp only [evW, Seg.val, Seg.w, f10, f30, f11, f12, f13, f14, f15, f16, f17, f18, f19, f20, f21, f22] <;> (clear f10 f30 f11 f12 f13 f14 f15 f16 f17 f18 f19 f20 f21 f22; omega)
  · show loM x b n 17 = _
    simp only [evW, Seg.val, Seg.w, f10, f30, f11, f12, f13, f14, f15, f16, f17, f18, f19, f20, f21, f22] <;> (clear f10 f30 f11 f12 f13 f14 f15 f16 f17 f18 f19 f20 f21 f22; omega)
  · show loM x b n 18 = _
    simp only [evW, Seg.val, Seg.w, f10, f30, f11, f12, f13, f14, f15, f16, f17, f18, f19, f20, f21, f22] <;> (clear f10 f30 f11 f12 f13 f14 f15 f16 f17 f18 f19 f20 f21 f22; omega)
  · show loM x b n 19 = _
    simp only [evW, Seg.val, Seg.w, f10, f30, f11, f12, f13, f14, f15, f16, f17, f18, f19, f20, f21, f22] <;> (clear f10 f30 f11 f12 f13 f14 f15 f16 f17 f18 f19 f20 f21 f22; omega)
  · show loM x b n 20 = _
    simp only [evW, Seg.val, Seg.w, f10, f30, f11, f12, f13, f14, f15, f16, f17, f18, f19, f20, f21, f22] <;> (clear f10 f30 f11 f12 f13 f14 f15 f16 f17 f18 f19 f20 f21 f22; omega)
  · show loM x b n 21 = _
    simp only [evW, Seg.val, Seg.w, f10, f30, f11, f12, f13, f14, f15, f16, f17, f18, f19, f20, f21, f22] <;> (clear f10 f30 f11 f12 f13 f14 f15 f16 f17 f18 f19 f20 f21 f22; omega)
  · show loM x b n 22 = _
    simp only [evW, Seg.val, Seg.w, f10, f30, f11, f12, f13, f14, f15, f16, f17, f18, f19, f20, f21, f22] <;> (clear f10 f30 f11 f12 f13 f14 f15 f16 f17 f18 f19 f20 f21 f22; omega)
  · show loM x b n 30 = _
    simp only [evW, Seg.val, Seg.w, f10, f30, f11, f12, f13, f14, f15, f16, f17, f18, f19, f20, f21, f22] <;> (clear f10 f30 f11 f12 f13 f14 f15 f16 f17 f18 f19 f20 f21 f22; omega)
end
end Tp
end Go.Proofs.YthmcpmdohmfeiaaGreatDoor
