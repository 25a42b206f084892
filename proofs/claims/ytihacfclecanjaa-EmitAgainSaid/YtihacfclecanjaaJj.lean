/- Chapter 22: the document: which blocks may be. -/
import Derived.Test.YtihacfclecanjaaJh
set_option linter.unusedVariables false
set_option linter.unusedSimpArgs false
namespace Go.Proofs.Ytihacfclecanjaa
open Go Go.Ev Go.RowKit
set_option maxRecDepth 100000
namespace Ls
theorem made_cases {nd nr o dd a b im k : Int} (h : madeB nd nr (o, dd, a, b, im) k = true) : dd = k ∧ ((o = 0 ∧ a = 0 ∧ b = 0) ∨ (o = 1 ∧ a = 0 ∧ b = 0 ∧ im < nd) ∨ (o = 2 ∧ a = 0 ∧ b = 0 ∧ im < nr) ∨ (o = 3 ∧ (0 ≤ a ∧ a < k) ∧ (0 ≤ b ∧ b < k) ∧ 16 ≤ im ∧ im ≤ 23) ∨ (o = 4 ∧ (0 ≤ a ∧ a < k) ∧ (0 ≤ b ∧ b < k) ∧ 16 ≤ im ∧ im ≤ 23) ∨ (o = 4 ∧ (0 ≤ a ∧ a < k) ∧ (0 ≤ b ∧ b < k) ∧ im = 25)) := by
 unfold madeB at h;simp only [Bool.and_eq_true, decide_eq_true_eq] at h;obtain ⟨h1, h⟩ := h;refine ⟨h1, ?_⟩
 by_cases h0 : o = 0
 ·rw [if_pos h0] at h; simp at h; omega
 rw [if_neg h0] at h
 by_cases h2 : o = 1
 ·rw [if_pos h2] at h; simp at h; omega
 rw [if_neg h2] at h
 by_cases h3 : o = 2
 ·rw [if_pos h3] at h; simp at h; omega
 rw [if_neg h3] at h
 by_cases h4 : o = 3
 ·rw [if_pos h4] at h; simp [valB] at h; omega
 rw [if_neg h4] at h
 by_cases h5 : o = 4
 ·rw [if_pos h5] at h; simp [valB] at h; omega
 rw [if_neg h5] at h;cases h
end Ls
end Go.Proofs.Ytihacfclecanjaa
