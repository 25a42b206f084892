/- LiveMeets: the code's parts, the plain law. -/
import Derived.Test.YtahikechkggbfaaP
import Derived.Test.YtahikechkggbfaaEvSb
import Derived.Test.YtahikechkggbfaaEvZ
import Derived.KernelRfl
namespace Go.Proofs.Ytahikechkggbfaa
open Go Go.Ev
set_option linter.unusedVariables false
set_option linter.unusedSimpArgs false
def mkS (l : List (Int × Int)) (i : Nat) : IV := ⟨i, (l.getD i (0, 0)).1 % 41, (l.getD i (0, 0)).1 % 41 + (1 + (l.getD i (0, 0)).2 % 9)⟩
def sS (l : List (Int × Int)) (k : Nat) : List IV := (List.range k).map (mkS l)
theorem sS_length (l : List (Int × Int)) (k : Nat) : (sS l k).length = k := by unfold sS; simp
theorem sS_snoc (l : List (Int × Int)) (k : Nat) : ivs (sS l (k + 1)) = ivs (sS l k) ++ IV.cells (mkS l k) := by
  unfold sS ivs; rw [List.range_succ, List.map_append, List.flatMap_append]; simp
theorem meet_comm (a b c d : Int) : meetB c d a b = meetB a b c d := by unfold meetB; rw [Bool.eq_iff_iff]; simp; omega
/-- No two of them meet, of those pairs that have been asked. -/
def Apart (S : List IV) (i k : Nat) : Prop := ∀ a b (ha : a < S.length) (hb : b < S.length), a < i ∨ (a = i ∧ b < k) → a = b ∨ meetB S[a].f S[a].t S[b].f S[b].t = false
theorem apart_zero (S : List IV) : Apart S 0 0 := fun a b _ _ h => by omega
theorem apart_row (S : List IV) (i : Nat) : Apart S i S.length ↔ Apart S (i + 1) 0 := by
  constructor
  · intro h a b ha hb hab; exact h a b ha hb (by omega)
  · intro h a b ha hb hab; exact h a b ha hb (by omega)
theorem apart_step (S : List IV) (i k : Nat) (hi : i < S.length) (hk : k < S.length) : Apart S i (k + 1) ↔ Apart S i k ∧ (i = k ∨ meetB S[i].f S[i].t S[k].f S[k].t = false) := by
  constructor
  · intro h; exact ⟨fun a b ha hb hab => h a b ha hb (by omega), h i k hi hk (by omega)⟩
  · rintro ⟨h1, h2⟩ a b ha hb hab
    by_cases h : a = i ∧ b = k
    · obtain ⟨rfl, rfl⟩ := h; exact h2
    · exact h1 a b ha hb (by omega)

def spans (l : List (Int × Int)) : List Value := l.flatMap fun p => [.int .i64 p.1, .int .i64 p.2]
/-- The row that has been made so far. -/
def Row (H0 : Heap) (s : Heap) (v : Value) (k : Nat) (xs : List Value) : Prop :=
  (k = 0 ∧ v = .slice none 0 0) ∨ (0 < k ∧ ∃ B, v = .slice (some ⟨B, 0, none⟩) k (unk + 3) ∧ H0.n ≤ B ∧ B < s.n ∧ s.get B = some ⟨xs, 40, false⟩)
namespace Me
def opsOf : Code → Array Oper | .region _ o _ => o | _ => #[]
noncomputable def b5 : Code := Try.f5.body.getD .skip
noncomputable def a0 : Code := cl b5
noncomputable def z1 : Code := cr b5
noncomputable def a1 : Code := cl z1
noncomputable def z2 : Code := cr z1
noncomputable def z2l : Code := cl z2
noncomputable def a2 : Code := cl z2l
noncomputable def B0 : Code := cr z2l
noncomputable def L1 : Code := cl (cl B0)
noncomputable def z3 : Code := cr z2
noncomputable def a7 : Code := cl z3
noncomputable def z4 : Code := cr z3
noncomputable def z4l : Code := cl z4
noncomputable def a8 : Code := cl z4l
noncomputable def B2 : Code := cr z4l
noncomputable def L2 : Code := cl (cl B2)
noncomputable def z5 : Code := cr z4
noncomputable def a17 : Code := cl z5
noncomputable def z6 : Code := cr z5
noncomputable def a18 : Code := cl z6
noncomputable def z7 : Code := cr z6
noncomputable def a19 : Code := cl z7
noncomputable def h1 : Code := cl L1
noncomputable def a3 : Code := cl h1
noncomputable def t1 : Code := cr L1
noncomputable def k1 : Code := cl t1
noncomputable def a4 : Code := cr t1
noncomputable def k1b : Code := cl k1
noncomputable def a5 : Code := cl k1b
noncomputable def a6 : Code := cr k1b
noncomputable def h2 : Code := cl L2
noncomputable def a9 : Code := cl h2
noncomputable def t2 : Code := cr L2
noncomputable def k3 : Code := cl t2
noncomputable def a10 : Code := cr t2
noncomputable def k3b : Code := cl k3
noncomputable def a11 : Code := cl k3b
noncomputable def B4 : Code := cr k3b
noncomputable def L3 : Code := cl (cl B4)
noncomputable def h3 : Code := cl L3
noncomputable def a12 : Code := cl h3
noncomputable def t3 : Code := cr L3
noncomputable def k5 : Code := cl t3
noncomputable def a13 : Code := cr t3
noncomputable def k5b : Code := cl k5
noncomputable def k5l : Code := cl k5b
noncomputable def a14 : Code := cl k5l
noncomputable def a16 : Code := cr k5b
noncomputable def c14 : Code := cr k5l
noncomputable def c14a : Code := cl c14
noncomputable def a15 : Code := cl c14a
noncomputable def o0 : Array Oper := opsOf a0
noncomputable def o1 : Array Oper := opsOf a1
noncomputable def o2 : Array Oper := opsOf a2
noncomputable def o3 : Array Oper := opsOf a3
noncomputable def o4 : Array Oper := opsOf a4
noncomputable def o5 : Array Oper := opsOf a5
noncomputable def o6 : Array Oper := opsOf a6
noncomputable def o7 : Array Oper := opsOf a7
noncomputable def o8 : Array Oper := opsOf a8
noncomputable def o9 : Array Oper := opsOf a9
noncomputable def o10 : Array Oper := opsOf a10
noncomputable def o11 : Array Oper := opsOf a11
noncomputable def o12 : Array Oper := opsOf a12
noncomputable def o13 : Array Oper := opsOf a13
noncomputable def o14 : Array Oper := opsOf a14
noncomputable def o15 : Array Oper := opsOf a15
noncomputable def o16 : Array Oper := opsOf a16
noncomputable def o17 : Array Oper := opsOf a17
noncomputable def o18 : Array Oper := opsOf a18
noncomputable def o19 : Array Oper := opsOf a19
theorem e5 : b5 = .seq a0 (.seq a1 (.seq (.seq a2 (.block 0 (.loop L1))) (.seq a7 (.seq (.seq a8 (.block 2 (.loop L2))) (.seq a17 (.seq a18 (.seq a19 .ret))))))) := by kernel_rfl
theorem eL1 : L1 = .seq (.seq a3 (.cond (.tmp 20) .skip (.exit 0))) (.seq (.block 1 (.seq a5 a6)) a4) := by kernel_rfl
theorem eL2 : L2 = .seq (.seq a9 (.cond (.tmp 46) .skip (.exit 2))) (.seq (.block 3 (.seq a11 (.block 4 (.loop L3)))) a10) := by kernel_rfl
theorem eL3 : L3 = .seq (.seq a12 (.cond (.tmp 52) .skip (.exit 4))) (.seq (.block 5 (.seq (.seq a14 (.cond (.tmp 90) (.seq a15 .ret) .skip)) a16)) a13) := by kernel_rfl
theorem r0 : a0 = .region 0 o0 false := by kernel_rfl
theorem r1 : a1 = .region 1 o1 false := by kernel_rfl
theorem r2 : a2 = .region 2 o2 false := by kernel_rfl
theorem r3 : a3 = .region 3 o3 false := by kernel_rfl
theorem r4 : a4 = .region 4 o4 false := by kernel_rfl
theorem r5 : a5 = .region 5 o5 false := by kernel_rfl
theorem r6 : a6 = .region 6 o6 false := by kernel_rfl
theorem r7 : a7 = .region 7 o7 false := by kernel_rfl
theorem r8 : a8 = .region 8 o8 false := by kernel_rfl
theorem r9 : a9 = .region 9 o9 false := by kernel_rfl
theorem r10 : a10 = .region 10 o10 false := by kernel_rfl
theorem r11 : a11 = .region 11 o11 false := by kernel_rfl
theorem r12 : a12 = .region 12 o12 false := by kernel_rfl
theorem r13 : a13 = .region 13 o13 false := by kernel_rfl
theorem r14 : a14 = .region 14 o14 true := by kernel_rfl
theorem r15 : a15 = .region 15 o15 false := by kernel_rfl
theorem r16 : a16 = .region 16 o16 true := by kernel_rfl
theorem r17 : a17 = .region 17 o17 false := by kernel_rfl
theorem r18 : a18 = .region 18 o18 false := by kernel_rfl
theorem r19 : a19 = .region 19 o19 false := by kernel_rfl
end Me
end Go.Proofs.Ytahikechkggbfaa
