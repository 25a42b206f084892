/- TopTimer: what becomes of a guest, at any time; both jobs. -/
import Derived.Test.YthmcpmdohmfeiaaGreatDoorTiB
import Derived.Test.YthmcpmdohmfeiaaGreatDoorTiC
import Derived.Test.YthmcpmdohmfeiaaGreatDoorTiD
import Derived.Test.YthmcpmdohmfeiaaGreatDoorTiE
namespace Go.Proofs.YthmcpmdohmfeiaaGreatDoor
open Go Go.Ev
set_option linter.unusedVariables false
set_option linter.unusedSimpArgs false
set_option maxRecDepth 100000
namespace Tp
noncomputable section
theorem rem_ev (ρ : Nat → Nat) (a : Nat) (e0 : ρ 0 = a) (ha : a < 4294967296) : (gZ .rem .u32 (evW ρ [.v 0 0 32]) (evW ρ [.k 200 8])).toNat = a % 200 := by
  have h1 : evW ρ [.v 0 0 32] = a := by simp only [evW, Seg.val, Seg.w, e0]; omega
  have h2 : evW ρ [.k 200 8] = 200 := by simp only [evW, Seg.val, Seg.w]
  rw [h1, h2]
  unfold gZ
  simp only [isShift, cond_false, ibin]
  rfl
def tiL (a n : Nat) : Nat → Nat := rl [a, 0, 0, 0, 0, 0, 0, 0, 0, 0, n + 3, n, 0, 0, 0, n]
def tiAr1 (n : Nat) : Nat → Nat := rl [n, 0, 0, 0, n]
def tiAr6 (n : Nat) : Nat → Nat := rl [n + 2, n, 0, 0, 0, n - 4, n]
def tiAr7 (n : Nat) : Nat → Nat := rl [n + 1, n, 0, 0, 0, n - 4, n]
def tiArg (n c : Nat) : Nat → Nat := rl [n, 0, 0, 0, n, c, c - 4]
def tiArs (a n : Nat) : Nat → Nat := valS (tiL a n) tiAXs
theorem tiA_s {a n : Nat} (ha : a < 4294967296) (hn : n = 30 + a % 200) : tiArs a n 0 = n ∧ tiArs a n 1 = 0 ∧ tiArs a n 2 = 0 ∧ tiArs a n 3 = 0 := by
  have h := rem_ev (tiL a n) a rfl ha
  refine ⟨?_, ?_, ?_, ?_⟩
  · show evW (tiL a n) [.p [.k 30 5] [.g .rem .u32 [.v 0 0 32] [.k 200 8] 0 32] 0 8] = _
    simp only [evW, Seg.val, Seg.w] at h ⊢
    rw [h] <;> omega
  · show evW (tiL a n) [.p [.k 30 5] [.g .rem .u32 [.v 0 0 32] [.k 200 8] 0 32] 16 8] = _
    simp only [evW, Seg.val, Seg.w] at h ⊢
    rw [h] <;> omega
  · show evW (tiL a n) [.p [.k 30 5] [.g .rem .u32 [.v 0 0 32] [.k 200 8] 0 32] 8 8] = _
    simp only [evW, Seg.val, Seg.w] at h ⊢
    rw [h] <;> omega
  · show evW (tiL a n) [.p [.k 30 5] [.g .rem .u32 [.v 0 0 32] [.k 200 8] 0 32] 24 8] = _
    simp only [evW, Seg.val, Seg.w] at h ⊢
    rw [h] <;> omega
theorem tiAk_p0 {a n : Nat} (ha : a < 4294967296) (hn : n = 30 + a % 200)  : Rn8 (tbH tiA0 (tiArs a n)) (tbH tiA1 (tiAr1 n)) := by
  obtain ⟨e0, e1, e2, e3⟩ := tiA_s ha hn
  have f0 : tiAr1 n 0 = n := rfl
  have f1 : tiAr1 n 1 = 0 := rfl
  have f2 : tiAr1 n 2 = 0 := rfl
  have f3 : tiAr1 n 3 = 0 := rfl
  have f4 : tiAr1 n 4 = n := rfl
  intro Y hY
  refine runP_call tiA_p0 (ρ := tiArs a n) (ρ' := tiAr1 n) ?_ ?_ hY
  · refine (all2 (asm_lt ?_) (all2 (asm_lt ?_) (all2 (asm_lt ?_) (all2 (asm_lt ?_) (all2 (asm_lt ?_) (all2 (asm_lt ?_) (all2 (asm_lt ?_) (all2 (asm_lt ?_) (all2 (asm_lt ?_) (all2 (asm_lt ?_) (all2 (asm_lt ?_) (all2 (asm_lt ?_) (all2 (asm_lt ?_) (all2 (asm_lt ?_) (all2 (asm_lt ?_) (all2 (asm_lt ?_) (all2 (asm_lt ?_) all0))))))))))))))))) <;> (simp only [evW, Seg.val, Seg.w, e0, e1, e2, e3] <;> (clear f0 f1 f2 f3 f4 e0 e1 e2 e3 hY; omega))
  · refine (all2 ?_ (all2 ?_ (all2 ?_ (all2 ?_ (all2 ?_ all0))))) <;> (simp only [evW, Seg.val, Seg.w, f0, f1, f2, f3, f4, e0, e1, e2, e3] <;> (clear f0 f1 f2 f3 f4 e0 e1 e2 e3 hY; omega))
theorem tiAk_p1 {a n : Nat} (ha : a < 4294967296) (hn : n = 30 + a % 200)  : Rn8 (tbH tiA1 (tiAr1 n)) (tbH tiAG (tiArg n 16)) := by
  have e0 : tiAr1 n 0 = n := rfl
  have e1 : tiAr1 n 1 = 0 := rfl
  have e2 : tiAr1 n 2 = 0 := rfl
  have e3 : tiAr1 n 3 = 0 := rfl
  have e4 : tiAr1 n 4 = n := rfl
  have f0 : tiArg n 16 0 = n := rfl
  have f1 : tiArg n 16 1 = 0 := rfl
  have f2 : tiArg n 16 2 = 0 := rfl
  have f3 : tiArg n 16 3 = 0 := rfl
  have f4 : tiArg n 16 4 = n := rfl
  have f5 : tiArg n 16 5 = 16 := rfl
  have f6 : tiArg n 16 6 = 16 - 4 := rfl
  intro Y hY
  refine runP_call tiA_p1 (ρ := tiAr1 n) (ρ' := tiArg n 16) ?_ ?_ hY
  · refine (all2 (asm_ne ?_) (all2 (asm_lt ?_) (all2 (asm_lt ?_) (all2 (asm_lt ?_) (all2 (asm_lt ?_) (all2 (asm_lt ?_) (all2 (asm_lt ?_) (all2 (asm_lt ?_) (all2 (asm_lt ?_) (all2 (asm_lt ?_) (all2 (asm_lt ?_) (all2 (asm_lt ?_) (all2 (asm_lt ?_) (all2 (asm_lt ?_) (all2 (asm_lt ?_) (all2 (asm_lt ?_) (all2 (asm_lt ?_) (all2 (asm_lt ?_) all0)))))))))))))))))) <;> (simp only [evW, Seg.val, Seg.w, e0, e1, e2, e3, e4] <;> (clear f0 f1 f2 f3 f4 f5 f6 e0 e1 e2 e3 e4 hY; omega))
  · refine (all2 ?_ (all2 ?_ (all2 ?_ (all2 ?_ (all2 ?_ (all2 ?_ (all2 ?_ all0))))))) <;> (simp only [evW, Seg.val, Seg.w, f0, f1, f2, f3, f4, f5, f6, e0, e1, e2, e3, e4] <;> (clear f0 f1 f2 f3 f4 f5 f6 e0 e1 e2 e3 e4 hY; omega))
theorem tiAk_pg {a n : Nat} {c : Nat} (ha : a < 4294967296) (hn : n = 30 + a % 200) (h1 : 16 ≤ c) (h2 : c + 8 ≤ n) : Rn8 (tbH tiAG (tiArg n c)) (tbH tiAG (tiArg n (c + 8))) := by
  have e0 : tiArg n c 0 = n := rfl
  have e1 : tiArg n c 1 = 0 := rfl
  have e2 : tiArg n c 2 = 0 := rfl
  have e3 : tiArg n c 3 = 0 := rfl
  have e4 : tiArg n c 4 = n := rfl
  have e5 : tiArg n c 5 = c := rfl
  have e6 : tiArg n c 6 = c - 4 := rfl
  have f0 : tiArg n (c + 8) 0 = n := rfl
  have f1 : tiArg n (c + 8) 1 = 0 := rfl
  have f2 : tiArg n (c + 8) 2 = 0 := rfl
  have f3 : tiArg n (c + 8) 3 = 0 := rfl
  have f4 : tiArg n (c + 8) 4 = n := rfl
  have f5 : tiArg n (c + 8) 5 = (c + 8) := rfl
  have f6 : tiArg n (c + 8) 6 = (c + 8) - 4 := rfl
  intro Y hY
  refine runP_call tiA_pg (ρ := tiArg n c) (ρ' := tiArg n (c + 8)) ?_ ?_ hY
  · refine (all2 (asm_ne ?_) (all2 (asm_lt ?_) (all2 (asm_lt ?_) (all2 (asm_lt ?_) (all2 (asm_lt ?_) (all2 (asm_lt ?_) (all2 (asm_lt ?_) (all2 (asm_lt ?_) (all2 (asm_lt ?_) (all2 (asm_lt ?_) all0)))))))))) <;> (simp only [evW, Seg.val, Seg.w, e0, e1, e2, e3, e4, e5, e6] <;> (clear f0 f1 f2 f3 f4 f5 f6 e0 e1 e2 e3 e4 e5 e6 hY; omega))
  · refine (all2 ?_ (all2 ?_ (all2 ?_ (all2 ?_ (all2 ?_ (all2 ?_ (all2 ?_ all0))))))) <;> (simp only [evW, Seg.val, Seg.w, f0, f1, f2, f3, f4, f5, f6, e0, e1, e2, e3, e4, e5, e6] <;> (clear f0 f1 f2 f3 f4 f5 f6 e0 e1 e2 e3 e4 e5 e6 hY; omega))
theorem tiAk_e0 {a n : Nat} {c : Nat} (ha : a < 4294967296) (hn : n = 30 + a % 200) (h1 : 16 ≤ c) (h2 : n = c + 0) : Rn8 (tbH tiAG (tiArg n c)) (tbH tiAE (tiL a n)) := by
  have e0 : tiArg n c 0 = n := rfl
  have e1 : tiArg n c 1 = 0 := rfl
  have e2 : tiArg n c 2 = 0 := rfl
  have e3 : tiArg n c 3 = 0 := rfl
  have e4 : tiArg n c 4 = n := rfl
  have e5 : tiArg n c 5 = c := rfl
  have e6 : tiArg n c 6 = c - 4 := rfl
  have f10 : tiL a n 10 = n + 3 := rfl
  have f11 : tiL a n 11 = n := rfl
  have f12 : tiL a n 12 = 0 := rfl
  have f13 : tiL a n 13 = 0 := rfl
  have f14 : tiL a n 14 = 0 := rfl
  have f15 : tiL a n 15 = n := rfl
  intro Y hY
  refine runP_call tiA_e0 (ρ := tiArg n c) (ρ' := tiL a n) ?_ ?_ hY
  · refine (all2 (asm_ne ?_) (all2 (asm_ge ?_) all0)) <;> (simp only [evW, Seg.val, Seg.w, e0, e1, e2, e3, e4, e5, e6] <;> (clear f10 f11 f12 f13 f14 f15 e0 e1 e2 e3 e4 e5 e6 hY; omega))
  · refine (all2 ?_ (all2 ?_ (all2 ?_ (all2 ?_ (all2 ?_ (all2 ?_ all0)))))) <;> (simp only [evW, Seg.val, Seg.w, f10, f11, f12, f13, f14, f15, e0, e1, e2, e3, e4, e5, e6] <;> (clear f10 f11 f12 f13 f14 f15 e0 e1 e2 e3 e4 e5 e6 hY; omega))
theorem tiAk_e1 {a n : Nat} {c : Nat} (ha : a < 4294967296) (hn : n = 30 + a % 200) (h1 : 16 ≤ c) (h2 : n = c + 1) : Rn8 (tbH tiAG (tiArg n c)) (tbH tiAE (tiL a n)) := by
  have e0 : tiArg n c 0 = n := rfl
  have e1 : tiArg n c 1 = 0 := rfl
  have e2 : tiArg n c 2 = 0 := rfl
  have e3 : tiArg n c 3 = 0 := rfl
  have e4 : tiArg n c 4 = n := rfl
  have e5 : tiArg n c 5 = c := rfl
  have e6 : tiArg n c 6 = c - 4 := rfl
  have f10 : tiL a n 10 = n + 3 := rfl
  have f11 : tiL a n 11 = n := rfl
  have f12 : tiL a n 12 = 0 := rfl
  have f13 : tiL a n 13 = 0 := rfl
  have f14 : tiL a n 14 = 0 := rfl
  have f15 : tiL a n 15 = n := rfl
  intro Y hY
  refine runP_call tiA_e1 (ρ := tiArg n c) (ρ' := tiL a n) ?_ ?_ hY
  · refine (all2 (asm_ne ?_) (all2 (asm_lt ?_) (all2 (asm_ge ?_) all0))) <;> (simp only [evW, Seg.val, Seg.w, e0, e1, e2, e3, e4, e5, e6] <;> (clear f10 f11 f12 f13 f14 f15 e0 e1 e2 e3 e4 e5 e6 hY; omega))
  · refine (all2 ?_ (all2 ?_ (all2 ?_ (all2 ?_ (all2 ?_ (all2 ?_ all0)))))) <;> (simp only [evW, Seg.val, Seg.w, f10, f11, f12, f13, f14, f15, e0, e1, e2, e3, e4, e5, e6] <;> (clear f10 f11 f12 f13 f14 f15 e0 e1 e2 e3 e4 e5 e6 hY; omega))
theorem tiAk_e2 {a n : Nat} {c : Nat} (ha : a < 4294967296) (hn : n = 30 + a % 200) (h1 : 16 ≤ c) (h2 : n = c + 2) : Rn8 (tbH tiAG (tiArg n c)) (tbH tiAE (tiL a n)) := by
  have e0 : tiArg n c 0 = n := rfl
  have e1 : tiArg n c 1 = 0 := rfl
  have e2 : tiArg n c 2 = 0 := rfl
  have e3 : tiArg n c 3 = 0 := rfl
  have e4 : tiArg n c 4 = n := rfl
  have e5 : tiArg n c 5 = c := rfl
  have e6 : tiArg n c 6 = c - 4 := rfl
  have f10 : tiL a n 10 = n + 3 := rfl
  have f11 : tiL a n 11 = n := rfl
  have f12 : tiL a n 12 = 0 := rfl
  have f13 : tiL a n 13 = 0 := rfl
  have f14 : tiL a n 14 = 0 := rfl
  have f15 : tiL a n 15 = n := rfl
  intro Y hY
  refine runP_call tiA_e2 (ρ := tiArg n c) (ρ' := tiL a n) ?_ ?_ hY
  · refine (all2 (asm_ne ?_) (all2 (asm_lt ?_) (all2 (asm_lt ?_) (all2 (asm_ge ?_) all0)))) <;> (simp only [evW, Seg.val, Seg.w, e0, e1, e2, e3, e4, e5, e6] <;> (clear f10 f11 f12 f13 f14 f15 e0 e1 e2 e3 e4 e5 e6 hY; omega))
  · refine (all2 ?_ (all2 ?_ (all2 ?_ (all2 ?_ (all2 ?_ (all2 ?_ all0)))))) <;> (simp only [evW, Seg.val, Seg.w, f10, f11, f12, f13, f14, f15, e0, e1, e2, e3, e4, e5, e6] <;> (clear f10 f11 f12 f13 f14 f15 e0 e1 e2 e3 e4 e5 e6 hY; omega))
theorem tiAk_e3 {a n : Nat} {c : Nat} (ha : a < 4294967296) (hn : n = 30 + a % 200) (h1 : 16 ≤ c) (h2 : n = c + 3) : Rn8 (tbH tiAG (tiArg n c)) (tbH tiAE (tiL a n)) := by
  have e0 : tiArg n c 0 = n := rfl
  have e1 : tiArg n c 1 = 0 := rfl
  have e2 : tiArg n c 2 = 0 := rfl
  have e3 : tiArg n c 3 = 0 := rfl
  have e4 : tiArg n c 4 = n := rfl
  have e5 : tiArg n c 5 = c := rfl
  have e6 : tiArg n c 6 = c - 4 := rfl
  have f10 : tiL a n 10 = n + 3 := rfl
  have f11 : tiL a n 11 = n := rfl
  have f12 : tiL a n 12 = 0 := rfl
  have f13 : tiL a n 13 = 0 := rfl
  have f14 : tiL a n 14 = 0 := rfl
  have f15 : tiL a n 15 = n := rfl
  intro Y hY
  refine runP_call tiA_e3 (ρ := tiArg n c) (ρ' := tiL a n) ?_ ?_ hY
  · refine (all2 (asm_ne ?_) (all2 (asm_lt ?_) (all2 (asm_lt ?_) (all2 (asm_lt ?_) (all2 (asm_ge ?_) all0))))) <;> (simp only [evW, Seg.val, Seg.w, e0, e1, e2, e3, e4, e5, e6] <;> (clear f10 f11 f12 f13 f14 f15 e0 e1 e2 e3 e4 e5 e6 hY; omega))
  · refine (all2 ?_ (all2 ?_ (all2 ?_ (all2 ?_ (all2 ?_ (all2 ?_ all0)))))) <;> (simp only [evW, Seg.val, Seg.w, f10, f11, f12, f13, f14, f15, e0, e1, e2, e3, e4, e5, e6] <;> (clear f10 f11 f12 f13 f14 f15 e0 e1 e2 e3 e4 e5 e6 hY; omega))
theorem tiAk_e4 {a n : Nat} {c : Nat} (ha : a < 4294967296) (hn : n = 30 + a % 200) (h1 : 16 ≤ c) (h2 : n = c + 4) : Rn8 (tbH tiAG (tiArg n c)) (tbH tiAE (tiL a n)) := by
  have e0 : tiArg n c 0 = n := rfl
  have e1 : tiArg n c 1 = 0 := rfl
  have e2 : tiArg n c 2 = 0 := rfl
  have e3 : tiArg n c 3 = 0 := rfl
  have e4 : tiArg n c 4 = n := rfl
  have e5 : tiArg n c 5 = c := rfl
  have e6 : tiArg n c 6 = c - 4 := rfl
  have f10 : tiL a n 10 = n + 3 := rfl
  have f11 : tiL a n 11 = n := rfl
  have f12 : tiL a n 12 = 0 := rfl
  have f13 : tiL a n 13 = 0 := rfl
  have f14 : tiL a n 14 = 0 := rfl
  have f15 : tiL a n 15 = n := rfl
  intro Y hY
  refine runP_call tiA_e4 (ρ := tiArg n c) (ρ' := tiL a n) ?_ ?_ hY
  · refine (all2 (asm_ne ?_) (all2 (asm_lt ?_) (all2 (asm_lt ?_) (all2 (asm_lt ?_) (all2 (asm_lt ?_) (all2 (asm_ge ?_) all0)))))) <;> (simp only [evW, Seg.val, Seg.w, e0, e1, e2, e3, e4, e5, e6] <;> (clear f10 f11 f12 f13 f14 f15 e0 e1 e2 e3 e4 e5 e6 hY; omega))
  · refine (all2 ?_ (all2 ?_ (all2 ?_ (all2 ?_ (all2 ?_ (all2 ?_ all0)))))) <;> (simp only [evW, Seg.val, Seg.w, f10, f11, f12, f13, f14, f15, e0, e1, e2, e3, e4, e5, e6] <;> (clear f10 f11 f12 f13 f14 f15 e0 e1 e2 e3 e4 e5 e6 hY; omega))
theorem tiAk_e5 {a n : Nat} {c : Nat} (ha : a < 4294967296) (hn : n = 30 + a % 200) (h1 : 16 ≤ c) (h2 : n = c + 5) : Rn8 (tbH tiAG (tiArg n c)) (tbH tiAE (tiL a n)) := by
  have e0 : tiArg n c 0 = n := rfl
  have e1 : tiArg n c 1 = 0 := rfl
  have e2 : tiArg n c 2 = 0 := rfl
  have e3 : tiArg n c 3 = 0 := rfl
  have e4 : tiArg n c 4 = n := rfl
  have e5 : tiArg n c 5 = c := rfl
  have e6 : tiArg n c 6 = c - 4 := rfl
  have f10 : tiL a n 10 = n + 3 := rfl
  have f11 : tiL a n 11 = n := rfl
  have f12 : tiL a n 12 = 0 := rfl
  have f13 : tiL a n 13 = 0 := rfl
  have f14 : tiL a n 14 = 0 := rfl
  have f15 : tiL a n 15 = n := rfl
  intro Y hY
  refine runP_call tiA_e5 (ρ := tiArg n c) (ρ' := tiL a n) ?_ ?_ hY
  · refine (all2 (asm_ne ?_) (all2 (asm_lt ?_) (all2 (asm_lt ?_) (all2 (asm_lt ?_) (all2 (asm_lt ?_) (all2 (asm_lt ?_) (all2 (asm_ge ?_) all0))))))) <;> (simp only [evW, Seg.val, Seg.w, e0, e1, e2, e3, e4, e5, e6] <;> (clear f10 f11 f12 f13 f14 f15 e0 e1 e2 e3 e4 e5 e6 hY; omega))
  · refine (all2 ?_ (all2 ?_ (all2 ?_ (all2 ?_ (all2 ?_ (all2 ?_ all0)))))) <;> (simp only [evW, Seg.val, Seg.w, f10, f11, f12, f13, f14, f15, e0, e1, e2, e3, e4, e5, e6] <;> (clear f10 f11 f12 f13 f14 f15 e0 e1 e2 e3 e4 e5 e6 hY; omega))
theorem tiAk_e6 {a n : Nat} {c : Nat} (ha : a < 4294967296) (hn : n = 30 + a % 200) (h1 : 16 ≤ c) (h2 : n = c + 6) : Rn8 (tbH tiAG (tiArg n c)) (tbH tiA6 (tiAr6 n)) := by
  have e0 : tiArg n c 0 = n := rfl
  have e1 : tiArg n c 1 = 0 := rfl
  have e2 : tiArg n c 2 = 0 := rfl
  have e3 : tiArg n c 3 = 0 := rfl
  have e4 : tiArg n c 4 = n := rfl
  have e5 : tiArg n c 5 = c := rfl
  have e6 : tiArg n c 6 = c - 4 := rfl
  have f0 : tiAr6 n 0 = n + 2 := rfl
  have f1 : tiAr6 n 1 = n := rfl
  have f2 : tiAr6 n 2 = 0 := rfl
  have f3 : tiAr6 n 3 = 0 := rfl
  have f4 : tiAr6 n 4 = 0 := rfl
  have f5 : tiAr6 n 5 = n - 4 := rfl
  have f6 : tiAr6 n 6 = n := rfl
  intro Y hY
  refine runP_call tiA_e6 (ρ := tiArg n c) (ρ' := tiAr6 n) ?_ ?_ hY
  · refine (all2 (asm_ne ?_) (all2 (asm_lt ?_) (all2 (asm_lt ?_) (all2 (asm_lt ?_) (all2 (asm_lt ?_) (all2 (asm_lt ?_) (all2 (asm_lt ?_) (all2 (asm_ge ?_) (all2 (asm_lt ?_) all0))))))))) <;> (simp only [evW, Seg.val, Seg.w, e0, e1, e2, e3, e4, e5, e6] <;> (clear f0 f1 f2 f3 f4 f5 f6 e0 e1 e2 e3 e4 e5 e6 hY; omega))
  · refine (all2 ?_ (all2 ?_ (all2 ?_ (all2 ?_ (all2 ?_ (all2 ?_ (all2 ?_ all0))))))) <;> (simp only [evW, Seg.val, Seg.w, f0, f1, f2, f3, f4, f5, f6, e0, e1, e2, e3, e4, e5, e6] <;> (clear f0 f1 f2 f3 f4 f5 f6 e0 e1 e2 e3 e4 e5 e6 hY; omega))
theorem tiAk_e7 {a n : Nat} {c : Nat} (ha : a < 4294967296) (hn : n = 30 + a % 200) (h1 : 16 ≤ c) (h2 : n = c + 7) : Rn8 (tbH tiAG (tiArg n c)) (tbH tiA7 (tiAr7 n)) := by
  have e0 : tiArg n c 0 = n := rfl
  have e1 : tiArg n c 1 = 0 := rfl
  have e2 : tiArg n c 2 = 0 := rfl
  have e3 : tiArg n c 3 = 0 := rfl
  have e4 : tiArg n c 4 = n := rfl
  have e5 : tiArg n c 5 = c := rfl
  have e6 : tiArg n c 6 = c - 4 := rfl
  have f0 : tiAr7 n 0 = n + 1 := rfl
  have f1 : tiAr7 n 1 = n := rfl
  have f2 : tiAr7 n 2 = 0 := rfl
  have f3 : tiAr7 n 3 = 0 := rfl
  have f4 : tiAr7 n 4 = 0 := rfl
  have f5 : tiAr7 n 5 = n - 4 := rfl
  have f6 : tiAr7 n 6 = n := rfl
  intro Y hY
  refine runP_call tiA_e7 (ρ := tiArg n c) (ρ' := tiAr7 n) ?_ ?_ hY
  · refine (all2 (asm_ne ?_) (all2 (asm_lt ?_) (all2 (asm_lt ?_) (all2 (asm_lt ?_) (all2 (asm_lt ?_) (all2 (asm_lt ?_) (all2 (asm_lt ?_) (all2 (asm_lt ?_) (all2 (asm_ge ?_) (all2 (asm_lt ?_) all0)))))))))) <;> (simp only [evW, Seg.val, Seg.w, e0, e1, e2, e3, e4, e5, e6] <;> (clear f0 f1 f2 f3 f4 f5 f6 e0 e1 e2 e3 e4 e5 e6 hY; omega))
  · refine (all2 ?_ (all2 ?_ (all2 ?_ (all2 ?_ (all2 ?_ (all2 ?_ (all2 ?_ all0))))))) <;> (simp only [evW, Seg.val, Seg.w, f0, f1, f2, f3, f4, f5, f6, e0, e1, e2, e3, e4, e5, e6] <;> (clear f0 f1 f2 f3 f4 f5 f6 e0 e1 e2 e3 e4 e5 e6 hY; omega))
theorem tiAk_h6 {a n : Nat} (ha : a < 4294967296) (hn : n = 30 + a % 200)  : Rn8 (tbH tiA6 (tiAr6 n)) (tbH tiAE (tiL a n)) := by
  have e0 : tiAr6 n 0 = n + 2 := rfl
  have e1 : tiAr6 n 1 = n := rfl
  have e2 : tiAr6 n 2 = 0 := rfl
  have e3 : tiAr6 n 3 = 0 := rfl
  have e4 : tiAr6 n 4 = 0 := rfl
  have e5 : tiAr6 n 5 = n - 4 := rfl
  have e6 : tiAr6 n 6 = n := rfl
  have f10 : tiL a n 10 = n + 3 := rfl
  have f11 : tiL a n 11 = n := rfl
  have f12 : tiL a n 12 = 0 := rfl
  have f13 : tiL a n 13 = 0 := rfl
  have f14 : tiL a n 14 = 0 := rfl
  have f15 : tiL a n 15 = n := rfl
  intro Y hY
  refine runP_call tiA_h6 (ρ := tiAr6 n) (ρ' := tiL a n) ?_ ?_ hY
  · exact all0
  · refine (all2 ?_ (all2 ?_ (all2 ?_ (all2 ?_ (all2 ?_ (all2 ?_ all0)))))) <;> (simp only [evW, Seg.val, Seg.w, f10, f11, f12, f13, f14, f15, e0, e1, e2, e3, e4, e5, e6] <;> (clear f10 f11 f12 f13 f14 f15 e0 e1 e2 e3 e4 e5 e6 hY; omega))
theorem tiAk_h7 {a n : Nat} (ha : a < 4294967296) (hn : n = 30 + a % 200)  : Rn8 (tbH tiA7 (tiAr7 n)) (tbH tiAE (tiL a n)) := by
  have e0 : tiAr7 n 0 = n + 1 := rfl
  have e1 : tiAr7 n 1 = n := rfl
  have e2 : tiAr7 n 2 = 0 := rfl
  have e3 : tiAr7 n 3 = 0 := rfl
  have e4 : tiAr7 n 4 = 0 := rfl
  have e5 : tiAr7 n 5 = n - 4 := rfl
  have e6 : tiAr7 n 6 = n := rfl
  have f10 : tiL a n 10 = n + 3 := rfl
  have f11 : tiL a n 11 = n := rfl
  have f12 : tiL a n 12 = 0 := rfl
  have f13 : tiL a n 13 = 0 := rfl
  have f14 : tiL a n 14 = 0 := rfl
  have f15 : tiL a n 15 = n := rfl
  intro Y hY
  refine runP_call tiA_h7 (ρ := tiAr7 n) (ρ' := tiL a n) ?_ ?_ hY
  · exact all0
  · refine (all2 ?_ (all2 ?_ (all2 ?_ (all2 ?_ (all2 ?_ (all2 ?_ all0)))))) <;> (simp only [evW, Seg.val, Seg.w, f10, f11, f12, f13, f14, f15, e0, e1, e2, e3, e4, e5, e6] <;> (clear f10 f11 f12 f13 f14 f15 e0 e1 e2 e3 e4 e5 e6 hY; omega))
theorem tiAk_l0 {a n : Nat} (ha : a < 4294967296) (hn : n = 30 + a % 200)  : Lk false (tbH tiA0 (tiArs a n)) := by
  obtain ⟨e0, e1, e2, e3⟩ := tiA_s ha hn
  intro Y hY
  refine lookP_call tiA_l0 (ρ := tiArs a n) ?_ hY
  refine (all2 ?_ (all2 ?_ (all2 ?_ (all2 ?_ all0)))) <;> (simp only [evW, Seg.val, Seg.w, e0, e1, e2, e3] <;> (clear e0 e1 e2 e3 hY; omega))
theorem tiAk_l1 {a n : Nat} (ha : a < 4294967296) (hn : n = 30 + a % 200)  : Lk false (tbH tiA1 (tiAr1 n)) := by
  have e0 : tiAr1 n 0 = n := rfl
  have e1 : tiAr1 n 1 = 0 := rfl
  have e2 : tiAr1 n 2 = 0 := rfl
  have e3 : tiAr1 n 3 = 0 := rfl
  have e4 : tiAr1 n 4 = n := rfl
  intro Y hY
  refine lookP_call tiA_l1 (ρ := tiAr1 n) ?_ hY
  refine (all2 ?_ (all2 ?_ (all2 ?_ (all2 ?_ (all2 ?_ all0))))) <;> (simp only [evW, Seg.val, Seg.w, e0, e1, e2, e3, e4] <;> (clear e0 e1 e2 e3 e4 hY; omega))
theorem tiAk_lG {a n : Nat} {c : Nat} (ha : a < 4294967296) (hn : n = 30 + a % 200) (h1 : 16 ≤ c) (h2 : c ≤ n) : Lk false (tbH tiAG (tiArg n c)) := by
  have e0 : tiArg n c 0 = n := rfl
  have e1 : tiArg n c 1 = 0 := rfl
  have e2 : tiArg n c 2 = 0 := rfl
  have e3 : tiArg n c 3 = 0 := rfl
  have e4 : tiArg n c 4 = n := rfl
  have e5 : tiArg n c 5 = c := rfl
  have e6 : tiArg n c 6 = c - 4 := rfl
  intro Y hY
  refine lookP_call tiA_lG (ρ := tiArg n c) ?_ hY
  refine (all2 ?_ (all2 ?_ (all2 ?_ (all2 ?_ (all2 ?_ (all2 ?_ (all2 ?_ all0))))))) <;> (simp only [evW, Seg.val, Seg.w, e0, e1, e2, e3, e4, e5, e6] <;> (clear e0 e1 e2 e3 e4 e5 e6 hY; omega))
theorem tiAk_l6 {a n : Nat} (ha : a < 4294967296) (hn : n = 30 + a % 200)  : Lk false (tbH tiA6 (tiAr6 n)) := by
  have e0 : tiAr6 n 0 = n + 2 := rfl
  have e1 : tiAr6 n 1 = n := rfl
  have e2 : tiAr6 n 2 = 0 := rfl
  have e3 : tiAr6 n 3 = 0 := rfl
  have e4 : tiAr6 n 4 = 0 := rfl
  have e5 : tiAr6 n 5 = n - 4 := rfl
  have e6 : tiAr6 n 6 = n := rfl
  intro Y hY
  refine lookP_call tiA_l6 (ρ := tiAr6 n) ?_ hY
  refine (all2 ?_ (all2 ?_ (all2 ?_ (all2 ?_ (all2 ?_ (all2 ?_ (all2 ?_ all0))))))) <;> (simp only [evW, Seg.val, Seg.w, e0, e1, e2, e3, e4, e5, e6] <;> (clear e0 e1 e2 e3 e4 e5 e6 hY; omega))
theorem tiAk_l7 {a n : Nat} (ha : a < 4294967296) (hn : n = 30 + a % 200)  : Lk false (tbH tiA7 (tiAr7 n)) := by
  have e0 : tiAr7 n 0 = n + 1 := rfl
  have e1 : tiAr7 n 1 = n := rfl
  have e2 : tiAr7 n 2 = 0 := rfl
  have e3 : tiAr7 n 3 = 0 := rfl
  have e4 : tiAr7 n 4 = 0 := rfl
  have e5 : tiAr7 n 5 = n - 4 := rfl
  have e6 : tiAr7 n 6 = n := rfl
  intro Y hY
  refine lookP_call tiA_l7 (ρ := tiAr7 n) ?_ hY
  refine (all2 ?_ (all2 ?_ (all2 ?_ (all2 ?_ (all2 ?_ (all2 ?_ (all2 ?_ all0))))))) <;> (simp only [evW, Seg.val, Seg.w, e0, e1, e2, e3, e4, e5, e6] <;> (clear e0 e1 e2 e3 e4 e5 e6 hY; omega))
theorem tiAk_lE {a n : Nat} (ha : a < 4294967296) (hn : n = 30 + a % 200)  : Lk true (tbH tiAE (tiL a n)) := by
  have e10 : tiL a n 10 = n + 3 := rfl
  have e11 : tiL a n 11 = n := rfl
  have e12 : tiL a n 12 = 0 := rfl
  have e13 : tiL a n 13 = 0 := rfl
  have e14 : tiL a n 14 = 0 := rfl
  have e15 : tiL a n 15 = n := rfl
  intro Y hY
  refine lookP_call tiA_lE (ρ := tiL a n) ?_ hY
  refine (all2 ?_ (all2 ?_ (all2 ?_ (all2 ?_ (all2 ?_ (all2 ?_ all0)))))) <;> (simp only [evW, Seg.val, Seg.w, e10, e11, e12, e13, e14, e15] <;> (clear e10 e11 e12 e13 e14 e15 hY; omega))
def tiAX (a n : Nat) : Nat → Heap → Prop := rndX tiA0 tiA1 tiAG tiA6 tiA7 tiAE (tiArs a n) (tiAr1 n) (tiAr6 n) (tiAr7 n) (tiL a n) (tiArg n) n
theorem tiA_fam {a n : Nat} (ha : a < 4294967296) (hn : n = 30 + a % 200) : Fam (tiAX a n) :=
  rnd_fam (by omega) (tiAk_l0 ha hn) (tiAk_l1 ha hn) (fun c h1 h2 => tiAk_lG ha hn h1 h2) (tiAk_l6 ha hn) (tiAk_l7 ha hn) (tiAk_lE ha hn)
    (tiAk_p0 ha hn) (tiAk_p1 ha hn) (fun c h1 h2 => tiAk_pg ha hn h1 h2) (fun c h1 h2 h3 => by
      rcases (by omega : n = c + 0 ∨ n = c + 1 ∨ n = c + 2 ∨ n = c + 3 ∨ n = c + 4 ∨ n = c + 5) with h | h | h | h | h | h
      · exact tiAk_e0 ha hn h1 h
      · exact tiAk_e1 ha hn h1 h
      · exact tiAk_e2 ha hn h1 h
      · exact tiAk_e3 ha hn h1 h
      · exact tiAk_e4 ha hn h1 h
      · exact tiAk_e5 ha hn h1 h)
    (fun c h1 h => tiAk_e6 ha hn h1 h) (fun c h1 h => tiAk_e7 ha hn h1 h) (tiAk_h6 ha hn) (tiAk_h7 ha hn)
def tiAJ : Job := ⟨[.n .i64 80], tiA0, tiAXs, tiAE⟩
theorem tiA_led : ledB tiA0 = tt := by kernel_rfl
theorem tiA_sim : simB tiAE = tt := by kernel_rfl
theorem tiA_job [Bs] [Tz1] {a n : Nat} (ha : a < 4294967296) (hn : n = 30 + a % 200) : JobOk Tryz.prog 34 (tiL a n) tiAJ :=
  job_ok (tiA_fam ha hn) (n := 80) rfl (by omega) (r := (n - 14) / 8 + 3) (.inl ⟨rfl, rfl⟩) (by omega)
    (fun S h => by
      rcases h with ⟨_, h⟩ | ⟨_, h⟩ | ⟨_, _, _, _, h⟩ | ⟨_, h⟩ | ⟨_, h⟩ | ⟨h, _⟩
      · omega
      · omega
      · omega
      · omega
      · omega
      · exact h) tiA_led (by show List.length tiA0 ≤ 32767; exact of_decide_eq_true (by kernel_rfl)) ⟨_, _, rfl⟩ tiA_sim
def tiBr1 (n : Nat) : Nat → Nat := rl [n, 0, 0, 0, n]
def tiBr6 (n : Nat) : Nat → Nat := rl [n + 2, n, 0, 0, 0, n]
def tiBr7 (n : Nat) : Nat → Nat := rl [n + 1, n, 0, 0, 0, n]
def tiBrg (n c : Nat) : Nat → Nat := rl [n, 0, 0, 0, n, c]
def tiBrs (a n : Nat) : Nat → Nat := valS (tiL a n) tiBXs
theorem tiB_s {a n : Nat} (ha : a < 4294967296) (hn : n = 30 + a % 200) : tiBrs a n 0 = n ∧ tiBrs a n 1 = 0 ∧ tiBrs a n 2 = 0 ∧ tiBrs a n 3 = 0 := by
  have h := rem_ev (tiL a n) a rfl ha
  refine ⟨?_, ?_, ?_, ?_⟩
  · show evW (tiL a n) [.p [.k 30 5] [.g .rem .u32 [.v 0 0 32] [.k 200 8] 0 32] 0 8] = _
    simp only [evW, Seg.val, Seg.w] at h ⊢
    rw [h] <;> omega
  · show evW (tiL a n) [.p [.k 30 5] [.g .rem .u32 [.v 0 0 32] [.k 200 8] 0 32] 16 8] = _
    simp only [evW, Seg.val, Seg.w] at h ⊢
    rw [h] <;> omega
  · show evW (tiL a n) [.p [.k 30 5] [.g .rem .u32 [.v 0 0 32] [.k 200 8] 0 32] 8 8] = _
    simp only [evW, Seg.val, Seg.w] at h ⊢
    rw [h] <;> omega
  · show evW (tiL a n) [.p [.k 30 5] [.g .rem .u32 [.v 0 0 32] [.k 200 8] 0 32] 24 8] = _
    simp only [evW, Seg.val, Seg.w] at h ⊢
    rw [h] <;> omega
theorem tiBk_p0 {a n : Nat} (ha : a < 4294967296) (hn : n = 30 + a % 200)  : Rn8 (tbH tiB0 (tiBrs a n)) (tbH tiB1 (tiBr1 n)) := by
  obtain ⟨e0, e1, e2, e3⟩ := tiB_s ha hn
  have f0 : tiBr1 n 0 = n := rfl
  have f1 : tiBr1 n 1 = 0 := rfl
  have f2 : tiBr1 n 2 = 0 := rfl
  have f3 : tiBr1 n 3 = 0 := rfl
  have f4 : tiBr1 n 4 = n := rfl
  intro Y hY
  refine runP_call tiB_p0 (ρ := tiBrs a n) (ρ' := tiBr1 n) ?_ ?_ hY
  · refine (all2 (asm_lt ?_) (all2 (asm_lt ?_) (all2 (asm_lt ?_) (all2 (asm_lt ?_) (all2 (asm_lt ?_) (all2 (asm_lt ?_) (all2 (asm_lt ?_) (all2 (asm_lt ?_) (all2 (asm_lt ?_) (all2 (asm_lt ?_) (all2 (asm_lt ?_) (all2 (asm_lt ?_) (all2 (asm_lt ?_) (all2 (asm_lt ?_) (all2 (asm_lt ?_) (all2 (asm_lt ?_) (all2 (asm_lt ?_) all0))))))))))))))))) <;> (simp only [evW, Seg.val, Seg.w, e0, e1, e2, e3] <;> (clear f0 f1 f2 f3 f4 e0 e1 e2 e3 hY; omega))
  · refine (all2 ?_ (all2 ?_ (all2 ?_ (all2 ?_ (all2 ?_ all0))))) <;> (simp only [evW, Seg.val, Seg.w, f0, f1, f2, f3, f4, e0, e1, e2, e3] <;> (clear f0 f1 f2 f3 f4 e0 e1 e2 e3 hY; omega))
theorem tiBk_p1 {a n : Nat} (ha : a < 4294967296) (hn : n = 30 + a % 200)  : Rn8 (tbH tiB1 (tiBr1 n)) (tbH tiBG (tiBrg n 16)) := by
  have e0 : tiBr1 n 0 = n := rfl
  have e1 : tiBr1 n 1 = 0 := rfl
  have e2 : tiBr1 n 2 = 0 := rfl
  have e3 : tiBr1 n 3 = 0 := rfl
  have e4 : tiBr1 n 4 = n := rfl
  have f0 : tiBrg n 16 0 = n := rfl
  have f1 : tiBrg n 16 1 = 0 := rfl
  have f2 : tiBrg n 16 2 = 0 := rfl
  have f3 : tiBrg n 16 3 = 0 := rfl
  have f4 : tiBrg n 16 4 = n := rfl
  have f5 : tiBrg n 16 5 = 16 := rfl
  intro Y hY
  refine runP_call tiB_p1 (ρ := tiBr1 n) (ρ' := tiBrg n 16) ?_ ?_ hY
  · refine (all2 (asm_ne ?_) (all2 (asm_lt ?_) (all2 (asm_lt ?_) (all2 (asm_lt ?_) (all2 (asm_lt ?_) (all2 (asm_lt ?_) (all2 (asm_lt ?_) (all2 (asm_lt ?_) (all2 (asm_lt ?_) (all2 (asm_lt ?_) (all2 (asm_lt ?_) (all2 (asm_lt ?_) (all2 (asm_lt ?_) (all2 (asm_lt ?_) (all2 (asm_lt ?_) (all2 (asm_lt ?_) (all2 (asm_lt ?_) (all2 (asm_lt ?_) all0)))))))))))))))))) <;> (simp only [evW, Seg.val, Seg.w, e0, e1, e2, e3, e4] <;> (clear f0 f1 f2 f3 f4 f5 e0 e1 e2 e3 e4 hY; omega))
  · refine (all2 ?_ (all2 ?_ (all2 ?_ (all2 ?_ (all2 ?_ (all2 ?_ all0)))))) <;> (simp only [evW, Seg.val, Seg.w, f0, f1, f2, f3, f4, f5, e0, e1, e2, e3, e4] <;> (clear f0 f1 f2 f3 f4 f5 e0 e1 e2 e3 e4 hY; omega))
theorem tiBk_pg {a n : Nat} {c : Nat} (ha : a < 4294967296) (hn : n = 30 + a % 200) (h1 : 16 ≤ c) (h2 : c + 8 ≤ n) : Rn8 (tbH tiBG (tiBrg n c)) (tbH tiBG (tiBrg n (c + 8))) := by
  have e0 : tiBrg n c 0 = n := rfl
  have e1 : tiBrg n c 1 = 0 := rfl
  have e2 : tiBrg n c 2 = 0 := rfl
  have e3 : tiBrg n c 3 = 0 := rfl
  have e4 : tiBrg n c 4 = n := rfl
  have e5 : tiBrg n c 5 = c := rfl
  have f0 : tiBrg n (c + 8) 0 = n := rfl
  have f1 : tiBrg n (c + 8) 1 = 0 := rfl
  have f2 : tiBrg n (c + 8) 2 = 0 := rfl
  have f3 : tiBrg n (c + 8) 3 = 0 := rfl
  have f4 : tiBrg n (c + 8) 4 = n := rfl
  have f5 : tiBrg n (c + 8) 5 = (c + 8) := rfl
  intro Y hY
  refine runP_call tiB_pg (ρ := tiBrg n c) (ρ' := tiBrg n (c + 8)) ?_ ?_ hY
  · refine (all2 (asm_ne ?_) (all2 (asm_lt ?_) (all2 (asm_lt ?_) (all2 (asm_lt ?_) (all2 (asm_lt ?_) (all2 (asm_lt ?_) (all2 (asm_lt ?_) (all2 (asm_lt ?_) (all2 (asm_lt ?_) all0))))))))) <;> (simp only [evW, Seg.val, Seg.w, e0, e1, e2, e3, e4, e5] <;> (clear f0 f1 f2 f3 f4 f5 e0 e1 e2 e3 e4 e5 hY; omega))
  · refine (all2 ?_ (all2 ?_ (all2 ?_ (all2 ?_ (all2 ?_ (all2 ?_ all0)))))) <;> (simp only [evW, Seg.val, Seg.w, f0, f1, f2, f3, f4, f5, e0, e1, e2, e3, e4, e5] <;> (clear f0 f1 f2 f3 f4 f5 e0 e1 e2 e3 e4 e5 hY; omega))
theorem tiBk_e0 {a n : Nat} {c : Nat} (ha : a < 4294967296) (hn : n = 30 + a % 200) (h1 : 16 ≤ c) (h2 : n = c + 0) : Rn8 (tbH tiBG (tiBrg n c)) (tbH tiBE (tiL a n)) := by
  have e0 : tiBrg n c 0 = n := rfl
  have e1 : tiBrg n c 1 = 0 := rfl
  have e2 : tiBrg n c 2 = 0 := rfl
  have e3 : tiBrg n c 3 = 0 := rfl
  have e4 : tiBrg n c 4 = n := rfl
  have e5 : tiBrg n c 5 = c := rfl
  have f10 : tiL a n 10 = n + 3 := rfl
  have f11 : tiL a n 11 = n := rfl
  have f12 : tiL a n 12 = 0 := rfl
  have f13 : tiL a n 13 = 0 := rfl
  have f14 : tiL a n 14 = 0 := rfl
  have f15 : tiL a n 15 = n := rfl
  intro Y hY
  refine runP_call tiB_e0 (ρ := tiBrg n c) (ρ' := tiL a n) ?_ ?_ hY
  · refine (all2 (asm_ne ?_) (all2 (asm_ge ?_) all0)) <;> (simp only [evW, Seg.val, Seg.w, e0, e1, e2, e3, e4, e5] <;> (clear f10 f11 f12 f13 f14 f15 e0 e1 e2 e3 e4 e5 hY; omega))
  · refine (all2 ?_ (all2 ?_ (all2 ?_ (all2 ?_ (all2 ?_ (all2 ?_ all0)))))) <;> (simp only [evW, Seg.val, Seg.w, f10, f11, f12, f13, f14, f15, e0, e1, e2, e3, e4, e5] <;> (clear f10 f11 f12 f13 f14 f15 e0 e1 e2 e3 e4 e5 hY; omega))
theorem tiBk_e1 {a n : Nat} {c : Nat} (ha : a < 4294967296) (hn : n = 30 + a % 200) (h1 : 16 ≤ c) (h2 : n = c + 1) : Rn8 (tbH tiBG (tiBrg n c)) (tbH tiBE (tiL a n)) := by
  have e0 : tiBrg n c 0 = n := rfl
  have e1 : tiBrg n c 1 = 0 := rfl
  have e2 : tiBrg n c 2 = 0 := rfl
  have e3 : tiBrg n c 3 = 0 := rfl
  have e4 : tiBrg n c 4 = n := rfl
  have e5 : tiBrg n c 5 = c := rfl
  have f10 : tiL a n 10 = n + 3 := rfl
  have f11 : tiL a n 11 = n := rfl
  have f12 : tiL a n 12 = 0 := rfl
  have f13 : tiL a n 13 = 0 := rfl
  have f14 : tiL a n 14 = 0 := rfl
  have f15 : tiL a n 15 = n := rfl
  intro Y hY
  refine runP_call tiB_e1 (ρ := tiBrg n c) (ρ' := tiL a n) ?_ ?_ hY
  · refine (all2 (asm_ne ?_) (all2 (asm_lt ?_) (all2 (asm_ge ?_) all0))) <;> (simp only [evW, Seg.val, Seg.w, e0, e1, e2, e3, e4, e5] <;> (clear f10 f11 f12 f13 f14 f15 e0 e1 e2 e3 e4 e5 hY; omega))
  · refine (all2 ?_ (all2 ?_ (all2 ?_ (all2 ?_ (all2 ?_ (all2 ?_ all0)))))) <;> (simp only [evW, Seg.val, Seg.w, f10, f11, f12, f13, f14, f15, e0, e1, e2, e3, e4, e5] <;> (clear f10 f11 f12 f13 f14 f15 e0 e1 e2 e3 e4 e5 hY; omega))
theorem tiBk_e2 {a n : Nat} {c : Nat} (ha : a < 4294967296) (hn : n = 30 + a % 200) (h1 : 16 ≤ c) (h2 : n = c + 2) : Rn8 (tbH tiBG (tiBrg n c)) (tbH tiBE (tiL a n)) := by
  have e0 : tiBrg n c 0 = n := rfl
  have e1 : tiBrg n c 1 = 0 := rfl
  have e2 : tiBrg n c 2 = 0 := rfl
  have e3 : tiBrg n c 3 = 0 := rfl
  have e4 : tiBrg n c 4 = n := rfl
  have e5 : tiBrg n c 5 = c := rfl
  have f10 : tiL a n 10 = n + 3 := rfl
  have f11 : tiL a n 11 = n := rfl
  have f12 : tiL a n 12 = 0 := rfl
  have f13 : tiL a n 13 = 0 := rfl
  have f14 : tiL a n 14 = 0 := rfl
  have f15 : tiL a n 15 = n := rfl
  intro Y hY
  refine runP_call tiB_e2 (ρ := tiBrg n c) (ρ' := tiL a n) ?_ ?_ hY
  · refine (all2 (asm_ne ?_) (all2 (asm_lt ?_) (all2 (asm_lt ?_) (all2 (asm_ge ?_) all0)))) <;> (simp only [evW, Seg.val, Seg.w, e0, e1, e2, e3, e4, e5] <;> (clear f10 f11 f12 f13 f14 f15 e0 e1 e2 e3 e4 e5 hY; omega))
  · refine (all2 ?_ (all2 ?_ (all2 ?_ (all2 ?_ (all2 ?_ (all2 ?_ all0)))))) <;> (simp only [evW, Seg.val, Seg.w, f10, f11, f12, f13, f14, f15, e0, e1, e2, e3, e4, e5] <;> (clear f10 f11 f12 f13 f14 f15 e0 e1 e2 e3 e4 e5 hY; omega))
theorem tiBk_e3 {a n : Nat} {c : Nat} (ha : a < 4294967296) (hn : n = 30 + a % 200) (h1 : 16 ≤ c) (h2 : n = c + 3) : Rn8 (tbH tiBG (tiBrg n c)) (tbH tiBE (tiL a n)) := by
  have e0 : tiBrg n c 0 = n := rfl
  have e1 : tiBrg n c 1 = 0 := rfl
  have e2 : tiBrg n c 2 = 0 := rfl
  have e3 : tiBrg n c 3 = 0 := rfl
  have e4 : tiBrg n c 4 = n := rfl
  have e5 : tiBrg n c 5 = c := rfl
  have f10 : tiL a n 10 = n + 3 := rfl
  have f11 : tiL a n 11 = n := rfl
  have f12 : tiL a n 12 = 0 := rfl
  have f13 : tiL a n 13 = 0 := rfl
  have f14 : tiL a n 14 = 0 := rfl
  have f15 : tiL a n 15 = n := rfl
  intro Y hY
  refine runP_call tiB_e3 (ρ := tiBrg n c) (ρ' := tiL a n) ?_ ?_ hY
  · refine (all2 (asm_ne ?_) (all2 (asm_lt ?_) (all2 (asm_lt ?_) (all2 (asm_lt ?_) (all2 (asm_ge ?_) all0))))) <;> (simp only [evW, Seg.val, Seg.w, e0, e1, e2, e3, e4, e5] <;> (clear f10 f11 f12 f13 f14 f15 e0 e1 e2 e3 e4 e5 hY; omega))
  · refine (all2 ?_ (all2 ?_ (all2 ?_ (all2 ?_ (all2 ?_ (all2 ?_ all0)))))) <;> (simp only [evW, Seg.val, Seg.w, f10, f11, f12, f13, f14, f15, e0, e1, e2, e3, e4, e5] <;> (clear f10 f11 f12 f13 f14 f15 e0 e1 e2 e3 e4 e5 hY; omega))
theorem tiBk_e4 {a n : Nat} {c : Nat} (ha : a < 4294967296) (hn : n = 30 + a % 200) (h1 : 16 ≤ c) (h2 : n = c + 4) : Rn8 (tbH tiBG (tiBrg n c)) (tbH tiBE (tiL a n)) := by
  have e0 : tiBrg n c 0 = n := rfl
  have e1 : tiBrg n c 1 = 0 := rfl
  have e2 : tiBrg n c 2 = 0 := rfl
  have e3 : tiBrg n c 3 = 0 := rfl
  have e4 : tiBrg n c 4 = n := rfl
  have e5 : tiBrg n c 5 = c := rfl
  have f10 : tiL a n 10 = n + 3 := rfl
  have f11 : tiL a n 11 = n := rfl
  have f12 : tiL a n 12 = 0 := rfl
  have f13 : tiL a n 13 = 0 := rfl
  have f14 : tiL a n 14 = 0 := rfl
  have f15 : tiL a n 15 = n := rfl
  intro Y hY
  refine runP_call tiB_e4 (ρ := tiBrg n c) (ρ' := tiL a n) ?_ ?_ hY
  · refine (all2 (asm_ne ?_) (all2 (asm_lt ?_) (all2 (asm_lt ?_) (all2 (asm_lt ?_) (all2 (asm_lt ?_) (all2 (asm_ge ?_) all0)))))) <;> (simp only [evW, Seg.val, Seg.w, e0, e1, e2, e3, e4, e5] <;> (clear f10 f11 f12 f13 f14 f15 e0 e1 e2 e3 e4 e5 hY; omega))
  · refine (all2 ?_ (all2 ?_ (all2 ?_ (all2 ?_ (all2 ?_ (all2 ?_ all0)))))) <;> (simp only [evW, Seg.val, Seg.w, f10, f11, f12, f13, f14, f15, e0, e1, e2, e3, e4, e5] <;> (clear f10 f11 f12 f13 f14 f15 e0 e1 e2 e3 e4 e5 hY; omega))
theorem tiBk_e5 {a n : Nat} {c : Nat} (ha : a < 4294967296) (hn : n = 30 + a % 200) (h1 : 16 ≤ c) (h2 : n = c + 5) : Rn8 (tbH tiBG (tiBrg n c)) (tbH tiBE (tiL a n)) := by
  have e0 : tiBrg n c 0 = n := rfl
  have e1 : tiBrg n c 1 = 0 := rfl
  have e2 : tiBrg n c 2 = 0 := rfl
  have e3 : tiBrg n c 3 = 0 := rfl
  have e4 : tiBrg n c 4 = n := rfl
  have e5 : tiBrg n c 5 = c := rfl
  have f10 : tiL a n 10 = n + 3 := rfl
  have f11 : tiL a n 11 = n := rfl
  have f12 : tiL a n 12 = 0 := rfl
  have f13 : tiL a n 13 = 0 := rfl
  have f14 : tiL a n 14 = 0 := rfl
  have f15 : tiL a n 15 = n := rfl
  intro Y hY
  refine runP_call tiB_e5 (ρ := tiBrg n c) (ρ' := tiL a n) ?_ ?_ hY
  · refine (all2 (asm_ne ?_) (all2 (asm_lt ?_) (all2 (asm_lt ?_) (all2 (asm_lt ?_) (all2 (asm_lt ?_) (all2 (asm_lt ?_) (all2 (asm_ge ?_) all0))))))) <;> (simp only [evW, Seg.val, Seg.w, e0, e1, e2, e3, e4, e5] <;> (clear f10 f11 f12 f13 f14 f15 e0 e1 e2 e3 e4 e5 hY; omega))
  · refine (all2 ?_ (all2 ?_ (all2 ?_ (all2 ?_ (all2 ?_ (all2 ?_ all0)))))) <;> (simp only [evW, Seg.val, Seg.w, f10, f11, f12, f13, f14, f15, e0, e1, e2, e3, e4, e5] <;> (clear f10 f11 f12 f13 f14 f15 e0 e1 e2 e3 e4 e5 hY; omega))
theorem tiBk_e6 {a n : Nat} {c : Nat} (ha : a < 4294967296) (hn : n = 30 + a % 200) (h1 : 16 ≤ c) (h2 : n = c + 6) : Rn8 (tbH tiBG (tiBrg n c)) (tbH tiB6 (tiBr6 n)) := by
  have e0 : tiBrg n c 0 = n := rfl
  have e1 : tiBrg n c 1 = 0 := rfl
  have e2 : tiBrg n c 2 = 0 := rfl
  have e3 : tiBrg n c 3 = 0 := rfl
  have e4 : tiBrg n c 4 = n := rfl
  have e5 : tiBrg n c 5 = c := rfl
  have f0 : tiBr6 n 0 = n + 2 := rfl
  have f1 : tiBr6 n 1 = n := rfl
  have f2 : tiBr6 n 2 = 0 := rfl
  have f3 : tiBr6 n 3 = 0 := rfl
  have f4 : tiBr6 n 4 = 0 := rfl
  have f5 : tiBr6 n 5 = n := rfl
  intro Y hY
  refine runP_call tiB_e6 (ρ := tiBrg n c) (ρ' := tiBr6 n) ?_ ?_ hY
  · refine (all2 (asm_ne ?_) (all2 (asm_lt ?_) (all2 (asm_lt ?_) (all2 (asm_lt ?_) (all2 (asm_lt ?_) (all2 (asm_lt ?_) (all2 (asm_lt ?_) (all2 (asm_ge ?_) all0)))))))) <;> (simp only [evW, Seg.val, Seg.w, e0, e1, e2, e3, e4, e5] <;> (clear f0 f1 f2 f3 f4 f5 e0 e1 e2 e3 e4 e5 hY; omega))
  · refine (all2 ?_ (all2 ?_ (all2 ?_ (all2 ?_ (all2 ?_ (all2 ?_ all0)))))) <;> (simp only [evW, Seg.val, Seg.w, f0, f1, f2, f3, f4, f5, e0, e1, e2, e3, e4, e5] <;> (clear f0 f1 f2 f3 f4 f5 e0 e1 e2 e3 e4 e5 hY; omega))
theorem tiBk_e7 {a n : Nat} {c : Nat} (ha : a < 4294967296) (hn : n = 30 + a % 200) (h1 : 16 ≤ c) (h2 : n = c + 7) : Rn8 (tbH tiBG (tiBrg n c)) (tbH tiB7 (tiBr7 n)) := by
  have e0 : tiBrg n c 0 = n := rfl
  have e1 : tiBrg n c 1 = 0 := rfl
  have e2 : tiBrg n c 2 = 0 := rfl
  have e3 : tiBrg n c 3 = 0 := rfl
  have e4 : tiBrg n c 4 = n := rfl
  have e5 : tiBrg n c 5 = c := rfl
  have f0 : tiBr7 n 0 = n + 1 := rfl
  have f1 : tiBr7 n 1 = n := rfl
  have f2 : tiBr7 n 2 = 0 := rfl
  have f3 : tiBr7 n 3 = 0 := rfl
  have f4 : tiBr7 n 4 = 0 := rfl
  have f5 : tiBr7 n 5 = n := rfl
  intro Y hY
  refine runP_call tiB_e7 (ρ := tiBrg n c) (ρ' := tiBr7 n) ?_ ?_ hY
  · refine (all2 (asm_ne ?_) (all2 (asm_lt ?_) (all2 (asm_lt ?_) (all2 (asm_lt ?_) (all2 (asm_lt ?_) (all2 (asm_lt ?_) (all2 (asm_lt ?_) (all2 (asm_lt ?_) (all2 (asm_ge ?_) all0))))))))) <;> (simp only [evW, Seg.val, Seg.w, e0, e1, e2, e3, e4, e5] <;> (clear f0 f1 f2 f3 f4 f5 e0 e1 e2 e3 e4 e5 hY; omega))
  · refine (all2 ?_ (all2 ?_ (all2 ?_ (all2 ?_ (all2 ?_ (all2 ?_ all0)))))) <;> (simp only [evW, Seg.val, Seg.w, f0, f1, f2, f3, f4, f5, e0, e1, e2, e3, e4, e5] <;> (clear f0 f1 f2 f3 f4 f5 e0 e1 e2 e3 e4 e5 hY; omega))
theorem tiBk_h6 {a n : Nat} (ha : a < 4294967296) (hn : n = 30 + a % 200)  : Rn8 (tbH tiB6 (tiBr6 n)) (tbH tiBE (tiL a n)) := by
  have e0 : tiBr6 n 0 = n + 2 := rfl
  have e1 : tiBr6 n 1 = n := rfl
  have e2 : tiBr6 n 2 = 0 := rfl
  have e3 : tiBr6 n 3 = 0 := rfl
  have e4 : tiBr6 n 4 = 0 := rfl
  have e5 : tiBr6 n 5 = n := rfl
  have f10 : tiL a n 10 = n + 3 := rfl
  have f11 : tiL a n 11 = n := rfl
  have f12 : tiL a n 12 = 0 := rfl
  have f13 : tiL a n 13 = 0 := rfl
  have f14 : tiL a n 14 = 0 := rfl
  have f15 : tiL a n 15 = n := rfl
  intro Y hY
  refine runP_call tiB_h6 (ρ := tiBr6 n) (ρ' := tiL a n) ?_ ?_ hY
  · exact all0
  · refine (all2 ?_ (all2 ?_ (all2 ?_ (all2 ?_ (all2 ?_ (all2 ?_ all0)))))) <;> (simp only [evW, Seg.val, Seg.w, f10, f11, f12, f13, f14, f15, e0, e1, e2, e3, e4, e5] <;> (clear f10 f11 f12 f13 f14 f15 e0 e1 e2 e3 e4 e5 hY; omega))
theorem tiBk_h7 {a n : Nat} (ha : a < 4294967296) (hn : n = 30 + a % 200)  : Rn8 (tbH tiB7 (tiBr7 n)) (tbH tiBE (tiL a n)) := by
  have e0 : tiBr7 n 0 = n + 1 := rfl
  have e1 : tiBr7 n 1 = n := rfl
  have e2 : tiBr7 n 2 = 0 := rfl
  have e3 : tiBr7 n 3 = 0 := rfl
  have e4 : tiBr7 n 4 = 0 := rfl
  have e5 : tiBr7 n 5 = n := rfl
  have f10 : tiL a n 10 = n + 3 := rfl
  have f11 : tiL a n 11 = n := rfl
  have f12 : tiL a n 12 = 0 := rfl
  have f13 : tiL a n 13 = 0 := rfl
  have f14 : tiL a n 14 = 0 := rfl
  have f15 : tiL a n 15 = n := rfl
  intro Y hY
  refine runP_call tiB_h7 (ρ := tiBr7 n) (ρ' := tiL a n) ?_ ?_ hY
  · exact all0
  · refine (all2 ?_ (all2 ?_ (all2 ?_ (all2 ?_ (all2 ?_ (all2 ?_ all0)))))) <;> (simp only [evW, Seg.val, Seg.w, f10, f11, f12, f13, f14, f15, e0, e1, e2, e3, e4, e5] <;> (clear f10 f11 f12 f13 f14 f15 e0 e1 e2 e3 e4 e5 hY; omega))
theorem tiBk_l0 {a n : Nat} (ha : a < 4294967296) (hn : n = 30 + a % 200)  : Lk false (tbH tiB0 (tiBrs a n)) := by
  obtain ⟨e0, e1, e2, e3⟩ := tiB_s ha hn
  intro Y hY
  refine lookP_call tiB_l0 (ρ := tiBrs a n) ?_ hY
  refine (all2 ?_ (all2 ?_ (all2 ?_ (all2 ?_ all0)))) <;> (simp only [evW, Seg.val, Seg.w, e0, e1, e2, e3] <;> (clear e0 e1 e2 e3 hY; omega))
theorem tiBk_l1 {a n : Nat} (ha : a < 4294967296) (hn : n = 30 + a % 200)  : Lk false (tbH tiB1 (tiBr1 n)) := by
  have e0 : tiBr1 n 0 = n := rfl
  have e1 : tiBr1 n 1 = 0 := rfl
  have e2 : tiBr1 n 2 = 0 := rfl
  have e3 : tiBr1 n 3 = 0 := rfl
  have e4 : tiBr1 n 4 = n := rfl
  intro Y hY
  refine lookP_call tiB_l1 (ρ := tiBr1 n) ?_ hY
  refine (all2 ?_ (all2 ?_ (all2 ?_ (all2 ?_ (all2 ?_ all0))))) <;> (simp only [evW, Seg.val, Seg.w, e0, e1, e2, e3, e4] <;> (clear e0 e1 e2 e3 e4 hY; omega))
theorem tiBk_lG {a n : Nat} {c : Nat} (ha : a < 4294967296) (hn : n = 30 + a % 200) (h1 : 16 ≤ c) (h2 : c ≤ n) : Lk false (tbH tiBG (tiBrg n c)) := by
  have e0 : tiBrg n c 0 = n := rfl
  have e1 : tiBrg n c 1 = 0 := rfl
  have e2 : tiBrg n c 2 = 0 := rfl
  have e3 : tiBrg n c 3 = 0 := rfl
  have e4 : tiBrg n c 4 = n := rfl
  have e5 : tiBrg n c 5 = c := rfl
  intro Y hY
  refine lookP_call tiB_lG (ρ := tiBrg n c) ?_ hY
  refine (all2 ?_ (all2 ?_ (all2 ?_ (all2 ?_ (all2 ?_ (all2 ?_ all0)))))) <;> (simp only [evW, Seg.val, Seg.w, e0, e1, e2, e3, e4, e5] <;> (clear e0 e1 e2 e3 e4 e5 hY; omega))
theorem tiBk_l6 {a n : Nat} (ha : a < 4294967296) (hn : n = 30 + a % 200)  : Lk false (tbH tiB6 (tiBr6 n)) := by
  have e0 : tiBr6 n 0 = n + 2 := rfl
  have e1 : tiBr6 n 1 = n := rfl
  have e2 : tiBr6 n 2 = 0 := rfl
  have e3 : tiBr6 n 3 = 0 := rfl
  have e4 : tiBr6 n 4 = 0 := rfl
  have e5 : tiBr6 n 5 = n := rfl
  intro Y hY
  refine lookP_call tiB_l6 (ρ := tiBr6 n) ?_ hY
  refine (all2 ?_ (all2 ?_ (all2 ?_ (all2 ?_ (all2 ?_ (all2 ?_ all0)))))) <;> (simp only [evW, Seg.val, Seg.w, e0, e1, e2, e3, e4, e5] <;> (clear e0 e1 e2 e3 e4 e5 hY; omega))
theorem tiBk_l7 {a n : Nat} (ha : a < 4294967296) (hn : n = 30 + a % 200)  : Lk false (tbH tiB7 (tiBr7 n)) := by
  have e0 : tiBr7 n 0 = n + 1 := rfl
  have e1 : tiBr7 n 1 = n := rfl
  have e2 : tiBr7 n 2 = 0 := rfl
  have e3 : tiBr7 n 3 = 0 := rfl
  have e4 : tiBr7 n 4 = 0 := rfl
  have e5 : tiBr7 n 5 = n := rfl
  intro Y hY
  refine lookP_call tiB_l7 (ρ := tiBr7 n) ?_ hY
  refine (all2 ?_ (all2 ?_ (all2 ?_ (all2 ?_ (all2 ?_ (all2 ?_ all0)))))) <;> (simp only [evW, Seg.val, Seg.w, e0, e1, e2, e3, e4, e5] <;> (clear e0 e1 e2 e3 e4 e5 hY; omega))
theorem tiBk_lE {a n : Nat} (ha : a < 4294967296) (hn : n = 30 + a % 200)  : Lk true (tbH tiBE (tiL a n)) := by
  have e10 : tiL a n 10 = n + 3 := rfl
  have e11 : tiL a n 11 = n := rfl
  have e12 : tiL a n 12 = 0 := rfl
  have e13 : tiL a n 13 = 0 := rfl
  have e14 : tiL a n 14 = 0 := rfl
  have e15 : tiL a n 15 = n := rfl
  intro Y hY
  refine lookP_call tiB_lE (ρ := tiL a n) ?_ hY
  refine (all2 ?_ (all2 ?_ (all2 ?_ (all2 ?_ (all2 ?_ (all2 ?_ all0)))))) <;> (simp only [evW, Seg.val, Seg.w, e10, e11, e12, e13, e14, e15] <;> (clear e10 e11 e12 e13 e14 e15 hY; omega))
def tiBX (a n : Nat) : Nat → Heap → Prop := rndX tiB0 tiB1 tiBG tiB6 tiB7 tiBE (tiBrs a n) (tiBr1 n) (tiBr6 n) (tiBr7 n) (tiL a n) (tiBrg n) n
theorem tiB_fam {a n : Nat} (ha : a < 4294967296) (hn : n = 30 + a % 200) : Fam (tiBX a n) :=
  rnd_fam (by omega) (tiBk_l0 ha hn) (tiBk_l1 ha hn) (fun c h1 h2 => tiBk_lG ha hn h1 h2) (tiBk_l6 ha hn) (tiBk_l7 ha hn) (tiBk_lE ha hn)
    (tiBk_p0 ha hn) (tiBk_p1 ha hn) (fun c h1 h2 => tiBk_pg ha hn h1 h2) (fun c h1 h2 h3 => by
      rcases (by omega : n = c + 0 ∨ n = c + 1 ∨ n = c + 2 ∨ n = c + 3 ∨ n = c + 4 ∨ n = c + 5) with h | h | h | h | h | h
      · exact tiBk_e0 ha hn h1 h
      · exact tiBk_e1 ha hn h1 h
      · exact tiBk_e2 ha hn h1 h
      · exact tiBk_e3 ha hn h1 h
      · exact tiBk_e4 ha hn h1 h
      · exact tiBk_e5 ha hn h1 h)
    (fun c h1 h => tiBk_e6 ha hn h1 h) (fun c h1 h => tiBk_e7 ha hn h1 h) (tiBk_h6 ha hn) (tiBk_h7 ha hn)
def tiBJ : Job := ⟨[.n .i64 80], tiB0, tiBXs, tiBE⟩
theorem tiB_led : ledB tiB0 = tt := by kernel_rfl
theorem tiB_sim : simB tiBE = tt := by kernel_rfl
theorem tiB_job [Bs] [Tz1] {a n : Nat} (ha : a < 4294967296) (hn : n = 30 + a % 200) : JobOk Tryz.prog 34 (tiL a n) tiBJ :=
  job_ok (tiB_fam ha hn) (n := 80) rfl (by omega) (r := (n - 14) / 8 + 3) (.inl ⟨rfl, rfl⟩) (by omega)
    (fun S h => by
      rcases h with ⟨_, h⟩ | ⟨_, h⟩ | ⟨_, _, _, _, h⟩ | ⟨_, h⟩ | ⟨_, h⟩ | ⟨h, _⟩
      · omega
      · omega
      · omega
      · omega
      · omega
      · exact h) tiB_led (by show List.length tiB0 ≤ 32767; exact of_decide_eq_true (by kernel_rfl)) ⟨_, _, rfl⟩ tiB_sim
def tiG : List Asm := [⟨1, [.v 15 0 32], [.p [.k 30 5] [.g .rem .u32 [.v 0 0 32] [.k 200 8] 0 32] 0 32], false⟩, ⟨1, [.v 15 0 32], [.p [.p [.k 30 5] [.g .rem .u32 [.v 0 0 32] [.k 200 8] 0 32] 0 32] [.k 8 4] 0 32], true⟩]
theorem tiG_ok {a n : Nat} (ha : a < 4294967296) (hn : n = 30 + a % 200) : ∀ x ∈ tiG, x.ok (tiL a n) := by
  have h := rem_ev (tiL a n) a rfl ha
  have d0 : tiL a n 15 = n := rfl
  refine (all2 (asm_ge ?_) (all2 (asm_lt ?_) all0))
  · simp only [evW, Seg.val, Seg.w] at h ⊢
    rw [h, d0]; omega
  · simp only [evW, Seg.val, Seg.w] at h ⊢
    rw [h, d0]; omega
end
end Tp
end Go.Proofs.YthmcpmdohmfeiaaGreatDoor
