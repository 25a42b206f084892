/- Chapter 19: what is lowered is right: the plain law. -/
import Derived.Test.YtgpphhdndmdlgaaKi
namespace Go.Proofs.Ytgpphhdndmdlgaa
open Go Go.Ev Go.RowKit
set_option linter.unusedVariables false
set_option linter.unusedSimpArgs false
namespace Ls
theorem madeB_mono {nd nr nd' nr' : Int} {x : II} {k : Int} (h : madeB nd nr x k = true) (h1 : nd ≤ nd') (h2 : nr ≤ nr') : madeB nd' nr' x k = true := by
 unfold madeB at h ⊢
 simp only [Bool.and_eq_true, decide_eq_true_eq] at h ⊢
 refine ⟨h.1, ?_⟩
 replace h := h.2
 by_cases e0 : x.1 = 0
 ·rw [if_pos e0] at h ⊢; exact h
 rw [if_neg e0] at h ⊢
 by_cases e1 : x.1 = 1
 ·rw [if_pos e1] at h ⊢; simp only [Bool.and_eq_true, decide_eq_true_eq] at h ⊢; omega
 rw [if_neg e1] at h ⊢
 by_cases e2 : x.1 = 2
 ·rw [if_pos e2] at h ⊢; simp only [Bool.and_eq_true, decide_eq_true_eq] at h ⊢; omega
 rw [if_neg e2] at h ⊢
 exact h
structure Cr (c : List II) (nd nr : Int) : Prop where
 code : ∀ (j : Nat) (x : II), c[j]? = some x → madeB nd nr x j = true
 imm : ∀ x ∈ c, 0 ≤ x.2.2.2.2 ∧ x.2.2.2.2 < 4294967296
def Vs (c : List II) (l : List Int) : Prop := ∀ x ∈ l, 0 ≤ x ∧ x < (c.length : Int)
theorem Cr.mono {c : List II} {nd nr nd' nr' : Int} (h : Cr c nd nr) (h1 : nd ≤ nd') (h2 : nr ≤ nr') : Cr c nd' nr' := ⟨fun j x hx => madeB_mono (h.code j x hx) h1 h2, h.imm⟩
theorem vs1 {c : List II} {a : Int} (h : 0 ≤ a ∧ a < (c.length : Int)) : Vs c [a] := fun x hx => by simp at hx; subst hx; exact h
structure LwI (k j : Nat) (w : LW) : Prop where
 cr : Cr w.c w.nd w.nr
 d : Vs w.c w.d
 r : Vs w.c w.r
 cl : w.c.length ≤ 4 * k
 nd : 0 ≤ w.nd ∧ w.nd ≤ 2 * (k : Int)
 nr : 0 ≤ w.nr ∧ w.nr ≤ (k : Int)
 dl : (w.d.length : Int) - w.nd ≤ k
 rl : (w.r.length : Int) - w.nr ≤ k
 dle : w.d.length ≤ 3 * k
 rle : w.r.length ≤ k
 hd : 0 ≤ w.hd ∧ w.hd ≤ (j : Int)
 hr : 0 ≤ w.hr ∧ w.hr ≤ (j : Int)
 fl : w.fl = -1 ∨ (0 ≤ w.fl ∧ w.fl < (w.c.length : Int))
 tg : w.tg = -1 ∨ (0 ≤ w.tg ∧ w.tg < (w.c.length : Int))
 bt : w.br = 0 ∨ (33 ≤ w.br ∧ w.br ≤ 37 ∧ w.tg = -1)
end Ls
end Go.Proofs.Ytgpphhdndmdlgaa
