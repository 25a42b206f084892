/- Chapter 19: what is done in a row. -/
import Derived.Test.YtgpphhdndmdlgaaPd
import Derived.Test.YtgpphhdndmdlgaaKh
namespace Go.Proofs.Ytgpphhdndmdlgaa
open Go Go.Ev Go.RowKit
set_option linter.unusedVariables false
set_option linter.unusedSimpArgs false
set_option maxRecDepth 100000
namespace Ls
theorem V32.tpk {l : List Int} (h : V32 l) (k : Nat) : 0 ≤ tpk l k ∧ tpk l k < 4294967296 := h.getD _
theorem V32.lss {l : List Int} (h : V32 l) (k : Nat) : V32 (lss l k) := fun x hx => h x (List.mem_of_mem_take hx)
theorem V32.one {x : Int} (h : 0 ≤ x ∧ x < 4294967296) : V32 [x] := fun y hy => by simp at hy; subst hy; exact h
theorem V32.two {x z : Int} (h : 0 ≤ x ∧ x < 4294967296) (k : 0 ≤ z ∧ z < 4294967296) : V32 [x, z] := fun y hy => by simp at hy; rcases hy with rfl | rfl <;> assumption
structure LInv (l : List (Int × Int)) (d r : List Int) (q : Sx) (pc : Int) (k : Nat) (z : Sx) (D R : List Int) (tr : Bool) : Prop where
 no : tr = false → runM l ⟨d, r, q.fl, pc⟩ k = some ⟨D, R, z.fl, z.pc⟩ ∧ z = { q with pc := z.pc, fl := z.fl, cnt := IntKind.u64.wrap (q.cnt + (k : Int)) } ∧ D.length ≤ 16 ∧ R.length ≤ 16 ∧ V32 D ∧ V32 R ∧ (0 ≤ z.fl ∧ z.fl ≤ 15)
 yes : tr = true → runM l ⟨d, r, q.fl, pc⟩ l.length = none
end Ls
end Go.Proofs.Ytgpphhdndmdlgaa
