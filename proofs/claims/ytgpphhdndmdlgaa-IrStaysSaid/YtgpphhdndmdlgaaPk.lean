/- Chapter 19: rows of instructions that are drawn. -/
import Derived.Test.YtgpphhdndmdlgaaPe
namespace Go.Proofs.Ytgpphhdndmdlgaa
open Go Go.Ev Go.RowKit
set_option linter.unusedVariables false
set_option linter.unusedSimpArgs false
set_option maxRecDepth 100000
namespace Ls
theorem V32.take {l : List Int} (h : V32 l) (k : Nat) : V32 (l.take k) := fun x hx => h x (List.mem_of_mem_take hx)
def Mid (l : List (Int × Int)) : Prop := ∀ x ∈ l, rightI x.1 x.2 = true ∧ plainB x.1 = true ∧ endsB x.1 = false ∧ 0 ≤ x.2 ∧ x.2 < 4294967296
theorem Mid.ok {l : List (Int × Int)} (h : Mid l) (h1 : 1 ≤ l.length) (h2 : l.length ≤ 8) : OkIns l := ⟨h1, h2, fun k x hx => by
 obtain ⟨a, b, c, _⟩ := h x (List.mem_of_getElem? hx)
 exact ⟨a, b, fun _ => c⟩⟩
theorem Mid.imm {l : List (Int × Int)} (h : Mid l) : ∀ x ∈ l, 0 ≤ x.2 ∧ x.2 < 4294967296 := fun x hx => (h x hx).2.2.2
theorem Mid.last {l : List (Int × Int)} (h : Mid l) (h2 : l.length ≤ 7) {o n : Int} (a1 : rightI o n = true) (a3 : plainB o = true) : OkIns (l ++ [(o, n)]) := ⟨by simp, by simp; omega, fun k x hx => by
 rw [List.getElem?_append] at hx
 split at hx
 ·obtain ⟨a, b, c, _⟩ := h x (List.mem_of_getElem? hx)
  exact ⟨a, b, fun _ => c⟩
 ·have := (List.getElem?_eq_some_iff.1 hx).1
  simp at this
  rw [show k - l.length = 0 by omega] at hx
  simp at hx; subst hx
  exact ⟨a1, a3, fun q => by simp at q; omega⟩⟩
structure LowI (m : List (Int × Int)) : Prop where
 imm : ∀ x ∈ m, 0 ≤ x.2 ∧ x.2 < 4294967296
 ok : m.length = 0 ∨ OkIns m
theorem Mid.low {l : List (Int × Int)} (h : Mid l) (h2 : l.length ≤ 8) : LowI l := ⟨h.imm, by
 rcases Nat.eq_zero_or_pos l.length with q | q
 ·exact .inl q
 ·exact .inr (h.ok q h2)⟩
theorem tm16 {x : Int} (h : 0 ≤ x ∧ x < 4294967296) : 0 ≤ Int.tmod x 16 ∧ Int.tmod x 16 ≤ 15 := by rw [Int.tmod_eq_emod_of_nonneg h.1]; omega
end Ls
end Go.Proofs.Ytgpphhdndmdlgaa
