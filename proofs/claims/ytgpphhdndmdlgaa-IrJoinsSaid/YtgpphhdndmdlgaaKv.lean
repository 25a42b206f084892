/- Chapter 19: what is lowered stands for a state. -/
import Derived.Test.YtgpphhdndmdlgaaKu
namespace Go.Proofs.Ytgpphhdndmdlgaa
open Go Go.Ev Go.RowKit
set_option linter.unusedVariables false
set_option linter.unusedSimpArgs false
set_option maxRecDepth 100000
namespace Ls
theorem doF_16 (op a b : Int) : 0 ≤ doF op a b ∧ doF op a b < 16 := by
 unfold doF moreF lessF
 have p1 := pf_rng ((a + b) % 4294967296); have p2 := pf_rng ((a - b) % 4294967296); have p3 := pf_rng (doR op a b); have p4 := pf_rng (a / b)
 repeat' split
 all_goals omega
structure Sim (w : LW) (d0 r0 : List Int) (f0 : Int) (d r : List Int) (fl : Int) : Prop where
 d : d = putL (valV w.c d0 r0) d0 w.nd.toNat w.d
 r : r = putL (valV w.c d0 r0) r0 w.nr.toNat w.r
 fl : fl = leftF (valV w.c d0 r0) w.fl f0
 nd : w.nd ≤ (d0.length : Int)
 nr : w.nr ≤ (r0.length : Int)
theorem Pre.leftF {V W : List Int} (h : Pre V W) {fl f0 : Int} (hf : fl = -1 ∨ (0 ≤ fl ∧ fl < (V.length : Int))) : leftF W fl f0 = leftF V fl f0 := by
 unfold Ls.leftF
 rcases hf with rfl | hf
 ·rfl
 ·rw [h.getD (by omega)]
theorem hd_same {op n nx : Int} {w : LW} (hp : plainB op = true) : (oneB op n nx w).hd = w.hd ∧ (oneB op n nx w).hr = w.hr := by
 obtain ⟨c, d, r, nd, hd', nr, hr', fl, tg, br⟩ := w
 obtain ⟨c1, d1, m1, n1, hq⟩ := popE 1 c d nd
 obtain ⟨c2, d2, m2, n2, hq2⟩ := popE 1 c1 d1 m1
 obtain ⟨cr, r1, mr, nr1, hqr⟩ := popE 2 c r nr
 rcases op_cases hp with ho | ho | ho | ho | ho | ho | ho | ho | ho | ho | ho | ho | ho | ho | ho | ho
 ·rw [one_nop (.inl ho)]; exact ⟨rfl, rfl⟩
 ·rw [one_lit (.inl ho)]; exact ⟨rfl, rfl⟩
 ·rw [one_lit (.inr ho)]; exact ⟨rfl, rfl⟩
 ·rw [one_dup ho hq]; exact ⟨rfl, rfl⟩
 ·rw [one_drop ho hq]; exact ⟨rfl, rfl⟩
 ·rw [one_swap ho hq hq2]; exact ⟨rfl, rfl⟩
 ·rw [one_over ho hq hq2]; exact ⟨rfl, rfl⟩
 ·rw [one_tor ho hq]; exact ⟨rfl, rfl⟩
 ·rw [one_fromr ho hqr]; exact ⟨rfl, rfl⟩
 ·rw [one_alu ho hq hq2]; exact ⟨rfl, rfl⟩
 ·rw [one_cmp ho hq hq2]; exact ⟨rfl, rfl⟩
 ·rw [one_nop (.inr ho)]; exact ⟨rfl, rfl⟩
 ·rw [one_jcc ho]; exact ⟨rfl, rfl⟩
 ·rw [one_call ho]; exact ⟨rfl, rfl⟩
 ·rw [one_ret ho hqr]; exact ⟨rfl, rfl⟩
 ·rw [one_jmpi ho hq]; exact ⟨rfl, rfl⟩
theorem hd_le {op n nx : Int} {w : LW} (hp : plainB op = true) : (oneP op n nx w).hd = max w.hd (((oneB op n nx w).d.length : Int) - (oneB op n nx w).nd) ∧ (oneP op n nx w).hr = max w.hr (((oneB op n nx w).r.length : Int) - (oneB op n nx w).nr) := by
 constructor
 ·show max (oneB op n nx w).hd _ = _
  rw [(hd_same hp).1]
 ·show max (oneB op n nx w).hr _ = _
  rw [(hd_same hp).2]
theorem can_iff {op n nx : Int} {w : LW} (hp : plainB op = true) (h0 : 0 ≤ w.nd) (h1 : 0 ≤ w.nr) {D R : Nat} (hd : w.nd ≤ (D : Int)) (hr : w.nr ≤ (R : Int)) :
    canM op (D - w.nd.toNat + w.d.length) (R - w.nr.toNat + w.r.length) = true ↔ ((oneB op n nx w).nd ≤ (D : Int) ∧ (oneB op n nx w).nr ≤ (R : Int) ∧ (D : Int) - (oneB op n nx w).nd + ((oneB op n nx w).d.length : Int) ≤ 16 ∧ (R : Int) - (oneB op n nx w).nr + ((oneB op n nx w).r.length : Int) ≤ 16) := by
 obtain ⟨c, d, r, nd, hd', nr, hr', fl, tg, br⟩ := w
 obtain ⟨c1, d1, m1, n1, hq⟩ := popE 1 c d nd
 obtain ⟨c2, d2, m2, n2, hq2⟩ := popE 1 c1 d1 m1
 obtain ⟨cr, r1, mr, nr1, hqr⟩ := popE 2 c r nr
 simp only at h0 h1 hd hr ⊢
 have k1 := pop_cnt hq; have k2 := pop_cnt hq2; have k3 := pop_cnt hqr
 have z1 : d = [] → d.length = 0 := fun h => by rw [h]; rfl
 have z2 : d1 = [] → d1.length = 0 := fun h => by rw [h]; rfl
 have z3 : d2 = [] → d2.length = 0 := fun h => by rw [h]; rfl
 have z4 : r = [] → r.length = 0 := fun h => by rw [h]; rfl
 have z5 : r1 = [] → r1.length = 0 := fun h => by rw [h]; rfl
 have K1 : (d.length = 0 ∧ d1.length = 0 ∧ m1 = nd + 1) ∨ (d.length = d1.length + 1 ∧ m1 = nd) := k1.imp (fun ⟨a, b, c⟩ => ⟨z1 a, z2 b, c⟩) id
 have K2 : (d1.length = 0 ∧ d2.length = 0 ∧ m2 = m1 + 1) ∨ (d1.length = d2.length + 1 ∧ m2 = m1) := k2.imp (fun ⟨a, b, c⟩ => ⟨z2 a, z3 b, c⟩) id
 have K3 : (r.length = 0 ∧ r1.length = 0 ∧ mr = nr + 1) ∨ (r.length = r1.length + 1 ∧ mr = nr) := k3.imp (fun ⟨a, b, c⟩ => ⟨z4 a, z5 b, c⟩) id
 clear k1 k2 k3 z1 z2 z3 z4 z5
 have alu : (16 ≤ op ∧ op ≤ 23) → nD0 op = 2 ∧ nD1 op = 1 ∧ nR0 op = 0 ∧ nR1 op = 0 := fun ho => by
  refine ⟨?_, ?_, ?_, ?_⟩
  ·unfold nD0; rw [if_neg (by omega), if_pos (by omega)]
  ·unfold nD1; rw [if_pos (by omega)]
  ·unfold nR0; rw [if_neg (by omega)]
  ·unfold nR1; rw [if_neg (by omega)]
 have jcc : (33 ≤ op ∧ op ≤ 37) → nD0 op = 0 ∧ nD1 op = 0 ∧ nR0 op = 0 ∧ nR1 op = 0 := fun ho => by
  refine ⟨?_, ?_, ?_, ?_⟩
  ·unfold nD0; rw [if_neg (by omega), if_neg (by omega)]
  ·unfold nD1; rw [if_neg (by omega), if_neg (by omega), if_neg (by omega)]
  ·unfold nR0; rw [if_neg (by omega)]
  ·unfold nR1; rw [if_neg (by omega)]
 unfold canM
 rcases op_cases hp with ho | ho | ho | ho | ho | ho | ho | ho | ho | ho | ho | ho | ho | ho | ho | ho
 ·rw [one_nop (.inl ho)]; subst ho; simp [nD0, nD1, nR0, nR1]; omega
 ·rw [one_lit (.inl ho)]; subst ho; simp [nD0, nD1, nR0, nR1]; omega
 ·rw [one_lit (.inr ho)]; subst ho; simp [nD0, nD1, nR0, nR1]; omega
 ·rw [one_dup ho hq]; subst ho; simp [nD0, nD1, nR0, nR1]; omega
 ·rw [one_drop ho hq]; subst ho; simp [nD0, nD1, nR0, nR1]; omega
 ·rw [one_swap ho hq hq2]; subst ho; simp [nD0, nD1, nR0, nR1]; omega
 ·rw [one_over ho hq hq2]; subst ho; simp [nD0, nD1, nR0, nR1]; omega
 ·rw [one_tor ho hq]; subst ho; simp [nD0, nD1, nR0, nR1]; omega
 ·rw [one_fromr ho hqr]; subst ho; simp [nD0, nD1, nR0, nR1]; omega
 ·rw [one_alu ho hq hq2]
  obtain ⟨e0, e1, e2, e3⟩ := alu ho
  rw [e0, e1, e2, e3]
  simp; omega
 ·rw [one_cmp ho hq hq2]; subst ho; simp [nD0, nD1, nR0, nR1]; omega
 ·rw [one_nop (.inr ho)]; subst ho; simp [nD0, nD1, nR0, nR1]; omega
 ·rw [one_jcc ho]
  obtain ⟨e0, e1, e2, e3⟩ := jcc ho
  rw [e0, e1, e2, e3]
  simp; omega
 ·rw [one_call ho]; subst ho; simp [nD0, nD1, nR0, nR1]; omega
 ·rw [one_ret ho hqr]; subst ho; simp [nD0, nD1, nR0, nR1]; omega
 ·rw [one_jmpi ho hq]; subst ho; simp [nD0, nD1, nR0, nR1]; omega
end Ls
end Go.Proofs.Ytgpphhdndmdlgaa
