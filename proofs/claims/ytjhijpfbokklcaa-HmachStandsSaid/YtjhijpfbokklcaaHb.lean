/- The machine's calls: the code's parts, the calls that are known. -/
import Derived.Test.YtjhijpfbokklcaaHa
import Derived.Test.YtjhijpfbokklcaaEvSc
import Derived.Test.YtjhijpfbokklcaaEvZ
import Derived.KernelRfl
namespace Go.Proofs.Ytjhijpfbokklcaa
open Go Go.Ev Go.RowKit
set_option linter.unusedVariables false
set_option linter.unusedSimpArgs false
set_option maxRecDepth 100000
namespace Hs
def isI (n : Int) : Prop := -9223372036854775808 ≤ n ∧ n ≤ 9223372036854775807
def inB (n lo hi : Int) : Bool := decide (-9223372036854775808 ≤ n) && decide (n ≤ 9223372036854775807) && decide (0 ≤ lo) && decide (lo ≤ hi) && decide (hi ≤ 1099511627776)
def agg5 : Value → Option (Int × Int × Int × Int × Int)
  | .agg c => match c.toList with
    | [.int .i64 a, .int .i64 b, .int .i64 c, .int .i64 d, .int .u32 e] => some (a, b, c, d, e)
    | _ => none
  | _ => none
def imOp (n : Int) : Bool := n == 14 || n == 15 || n == 18 || n == 19
def orc4 : FuncId → List Value → Option Value
  | 16, [] => some (.bool true)
  | 12, [.int .i64 n, .int .i64 lo, .int .i64 hi] => bif inB n lo hi then some (.int .i64 (lo + n % (hi - lo + 1))) else none
  | 37, [a] => match agg5 a with
    | some (op, rd, ra, rb, im) => bif imOp op && (rd == 0 && (ra == 0 && rb == 0)) then some (.bool true) else none
    | none => none
  | _, _ => none
theorem agg5_spec {v : Value} {a b c d e : Int} (h : agg5 v = some (a, b, c, d, e)) : v = .agg #[.int .i64 a, .int .i64 b, .int .i64 c, .int .i64 d, .int .u32 e] := by
  unfold agg5 at h
  split at h
  · rename_i cs
    split at h
    · rename_i hl
      cases h
      congr 1
      exact Array.ext' hl
    · cases h
  · cases h
noncomputable abbrev T00 : Tab := tabOf Try.prog
theorem progOk00 : ProgOk Try.prog T00 := progOk_of (by kernel_rfl) (by kernel_rfl)
theorem known_run : isTrue (evCall Try.prog T00 1000 16 #[] ⟨.lf, 0⟩) = true := by kernel_rfl
theorem right_im (op im : Int) (h : imOp op = true) : rightB op 0 0 0 im = true := by
  unfold imOp at h
  have ho : op = 14 ∨ op = 15 ∨ op = 18 ∨ op = 19 := by simpa [or_assoc] using h
  unfold rightB
  have h1 : okB op = true := by unfold okB; simp; omega
  have h2 : imB op = true := by unfold imB; simp; omega
  have h3 : regB 0 = true := by unfold regB; simp
  have h4 : ∀ b, sel b 0 = 0 := fun b => by unfold sel; cases b <;> simp
  have h5 : sel true im = im := by unfold sel; simp
  simp [h1, h2, h3, h4, h5]
theorem quiet_below {w w' : World} {e : Ending} {v : Value} (h : e = .returned v ∧ Below w.heap.size w w') : e = .returned v ∧ Quiet w w' := ⟨h.1, Quiet.of_below h.2⟩
theorem quiet_eq {w w' : World} {e : Ending} {v : Value} (h : e = .returned v ∧ w = w') : e = .returned v ∧ Quiet w w' := ⟨h.1, by rw [h.2]; exact Quiet.refl _⟩
theorem orc4_ok : ∀ f args v, orc4 f args = some v → closed v = true ∧ args.all closed = true ∧ ∀ w, Calls Try.prog f args.toArray w fun e w' => e = .returned v ∧ Quiet w w' := by
  intro f args v h
  unfold orc4 at h
  split at h
  · cases h
    exact ⟨rfl, rfl, fun w => true_calls progOk00 known_run w⟩
  · rename_i n lo hi
    cases hb : inB n lo hi
    · rw [hb] at h; cases h
    · rw [hb] at h; cases h
      unfold inB at hb
      simp only [Bool.and_eq_true, decide_eq_true_eq] at hb
      obtain ⟨⟨⟨⟨h1, h2⟩, h3⟩, h4⟩, h5⟩ := hb
      exact ⟨rfl, rfl, fun w => (within_any n lo hi w h1 h2 h3 h4 h5).mono fun _ _ => quiet_eq⟩
  · rename_i a
    split at h
    · rename_i op rd ra rb im e1
      cases hb : (imOp op && (rd == 0 && (ra == 0 && rb == 0)))
      · rw [hb] at h; cases h
      · rw [hb] at h; cases h
        simp only [Bool.and_eq_true, beq_iff_eq] at hb
        obtain ⟨h1, rfl, rfl, rfl⟩ := hb
        rw [agg5_spec e1]
        refine ⟨rfl, rfl, fun w => ?_⟩
        have := right_any op 0 0 0 im w
        rw [right_im op im h1] at this
        exact this.mono fun _ _ => quiet_below
    · cases h
  · cases h
noncomputable def T4 : Tab := { tabOf Try.prog with orc := orc4 }
theorem progOk4 : ProgOk Try.prog T4 := progOk00.withOrc orc4 orc4_ok
theorem orc12 (n lo hi : Int) (h : inB n lo hi = true) : T4.orc 12 [.int .i64 n, .int .i64 lo, .int .i64 hi] = some (.int .i64 (lo + n % (hi - lo + 1))) := by
  show (bif inB n lo hi then some (Value.int .i64 (lo + n % (hi - lo + 1))) else none) = _
  rw [h]; rfl
theorem orc16 : T4.orc 16 [] = some (.bool true) := rfl
def opsOf : Code → Array Oper | .region _ o _ => o | _ => #[]
def cop : Code → Operand | .cond x _ _ => x | _ => .tmp 0
noncomputable def f21b : Code := Try.f21.body.getD .skip
noncomputable def f21r0 : Code := cl f21b
noncomputable def f21o0 : Array Oper := opsOf f21r0
noncomputable def f21n1 : Code := cr f21b
noncomputable def f21n2 : Code := cl f21n1
noncomputable def f21r1 : Code := cl f21n2
noncomputable def f21o1 : Array Oper := opsOf f21r1
noncomputable def f21n3 : Code := cr f21n2
noncomputable def f21n4 : Code := cl f21n3
noncomputable def f21r2 : Code := cl f21n4
noncomputable def f21o2 : Array Oper := opsOf f21r2
noncomputable def f21n5 : Code := cr f21n1
noncomputable def f21r3 : Code := cl f21n5
noncomputable def f21o3 : Array Oper := opsOf f21r3
noncomputable def f21n6 : Code := cr f21n5
noncomputable def f21r4 : Code := cl f21n6
noncomputable def f21o4 : Array Oper := opsOf f21r4
noncomputable def f21n7 : Code := cr f21n6
noncomputable def f21r5 : Code := cl f21n7
noncomputable def f21o5 : Array Oper := opsOf f21r5
noncomputable def f21n8 : Code := cr f21n7
noncomputable def f21r6 : Code := cl f21n8
noncomputable def f21o6 : Array Oper := opsOf f21r6
noncomputable def f21n9 : Code := cr f21n8
noncomputable def f21n10 : Code := cl f21n9
noncomputable def f21r7 : Code := cl f21n10
noncomputable def f21o7 : Array Oper := opsOf f21r7
noncomputable def f21n11 : Code := cr f21n10
noncomputable def f21n12 : Code := cl f21n11
noncomputable def f21r9 : Code := cl f21n12
noncomputable def f21o9 : Array Oper := opsOf f21r9
noncomputable def f21n13 : Code := cr f21n12
noncomputable def f21n14 : Code := cr f21n13
noncomputable def f21r10 : Code := cl f21n14
noncomputable def f21o10 : Array Oper := opsOf f21r10
noncomputable def f21n15 : Code := cr f21n14
noncomputable def f21r11 : Code := cl f21n15
noncomputable def f21o11 : Array Oper := opsOf f21r11
noncomputable def f21n16 : Code := cr f21n15
noncomputable def f21n17 : Code := cl f21n16
noncomputable def f21r12 : Code := cl f21n17
noncomputable def f21o12 : Array Oper := opsOf f21r12
noncomputable def f21n18 : Code := cr f21n17
noncomputable def f21r13 : Code := cr f21n18
noncomputable def f21o13 : Array Oper := opsOf f21r13
noncomputable def f21n19 : Code := cr f21n16
noncomputable def f21n20 : Code := cl f21n19
noncomputable def f21n21 : Code := cl f21n20
noncomputable def f21r14 : Code := cl f21n21
noncomputable def f21o14 : Array Oper := opsOf f21r14
noncomputable def f21n22 : Code := cr f21n21
noncomputable def f21n23 : Code := cl f21n22
noncomputable def f21r15 : Code := cl f21n23
noncomputable def f21o15 : Array Oper := opsOf f21r15
noncomputable def f21n24 : Code := cr f21n20
noncomputable def f21r16 : Code := cl f21n24
noncomputable def f21o16 : Array Oper := opsOf f21r16
noncomputable def f21n25 : Code := cr f21n24
noncomputable def f21r17 : Code := cl f21n25
noncomputable def f21o17 : Array Oper := opsOf f21r17
noncomputable def f21r18 : Code := cr f21n25
noncomputable def f21o18 : Array Oper := opsOf f21r18
noncomputable def f21n26 : Code := cr f21n19
noncomputable def f21n27 : Code := cl f21n26
noncomputable def f21r19 : Code := cl f21n27
noncomputable def f21o19 : Array Oper := opsOf f21r19
noncomputable def f21n28 : Code := cr f21n27
noncomputable def f21r20 : Code := cr f21n28
noncomputable def f21o20 : Array Oper := opsOf f21r20
noncomputable def f21n29 : Code := cr f21n26
noncomputable def f21n30 : Code := cl f21n29
noncomputable def f21r21 : Code := cl f21n30
noncomputable def f21o21 : Array Oper := opsOf f21r21
noncomputable def f21n31 : Code := cr f21n30
noncomputable def f21r22 : Code := cl f21n31
noncomputable def f21o22 : Array Oper := opsOf f21r22
noncomputable def f21n32 : Code := cr f21n29
noncomputable def f21r23 : Code := cl f21n32
noncomputable def f21o23 : Array Oper := opsOf f21r23
noncomputable def f21n33 : Code := cr f21n32
noncomputable def f21r24 : Code := cl f21n33
noncomputable def f21o24 : Array Oper := opsOf f21r24
noncomputable def f21n34 : Code := cr f21n33
noncomputable def f21r25 : Code := cl f21n34
noncomputable def f21o25 : Array Oper := opsOf f21r25
noncomputable def f21n35 : Code := cr f21n34
noncomputable def f21n36 : Code := cl f21n35
noncomputable def f21r26 : Code := cl f21n36
noncomputable def f21o26 : Array Oper := opsOf f21r26
noncomputable def f21r8 : Code := cr f21n35
noncomputable def f21o8 : Array Oper := opsOf f21r8
noncomputable def f21n37 : Code := cr f21n9
noncomputable def f21r27 : Code := cl f21n37
noncomputable def f21o27 : Array Oper := opsOf f21r27
noncomputable def f21n38 : Code := cr f21n37
noncomputable def f21r28 : Code := cl f21n38
noncomputable def f21o28 : Array Oper := opsOf f21r28
theorem f21r0_eq : f21r0 = .region 0 f21o0 false := by kernel_rfl
theorem f21r1_eq : f21r1 = .region 1 f21o1 true := by kernel_rfl
theorem f21r2_eq : f21r2 = .region 2 f21o2 false := by kernel_rfl
theorem f21n4_eq : f21n4 = .seq f21r2 .ret := by kernel_rfl
theorem f21n3_eq : f21n3 = .cond (cop f21n3) f21n4 .skip := by kernel_rfl
theorem f21n2_eq : f21n2 = .seq f21r1 f21n3 := by kernel_rfl
theorem f21r3_eq : f21r3 = .region 3 f21o3 true := by kernel_rfl
theorem f21r4_eq : f21r4 = .region 4 f21o4 true := by kernel_rfl
theorem f21r5_eq : f21r5 = .region 5 f21o5 false := by kernel_rfl
theorem f21r6_eq : f21r6 = .region 6 f21o6 false := by kernel_rfl
theorem f21r7_eq : f21r7 = .region 7 f21o7 false := by kernel_rfl
theorem f21r9_eq : f21r9 = .region 9 f21o9 false := by kernel_rfl
theorem f21r10_eq : f21r10 = .region 10 f21o10 false := by kernel_rfl
theorem f21r11_eq : f21r11 = .region 11 f21o11 true := by kernel_rfl
theorem f21r12_eq : f21r12 = .region 12 f21o12 false := by kernel_rfl
theorem f21r13_eq : f21r13 = .region 13 f21o13 false := by kernel_rfl
theorem f21n18_eq : f21n18 = .cond (cop f21n18) .skip f21r13 := by kernel_rfl
theorem f21n17_eq : f21n17 = .seq f21r12 f21n18 := by kernel_rfl
theorem f21r14_eq : f21r14 = .region 14 f21o14 false := by kernel_rfl
theorem f21r15_eq : f21r15 = .region 15 f21o15 false := by kernel_rfl
theorem f21n23_eq : f21n23 = .seq f21r15 .ret := by kernel_rfl
theorem f21n22_eq : f21n22 = .cond (cop f21n22) f21n23 .skip := by kernel_rfl
theorem f21n21_eq : f21n21 = .seq f21r14 f21n22 := by kernel_rfl
theorem f21r16_eq : f21r16 = .region 16 f21o16 false := by kernel_rfl
theorem f21r17_eq : f21r17 = .region 17 f21o17 true := by kernel_rfl
theorem f21r18_eq : f21r18 = .region 18 f21o18 false := by kernel_rfl
theorem f21n25_eq : f21n25 = .cond (cop f21n25) f21r17 f21r18 := by kernel_rfl
theorem f21n24_eq : f21n24 = .seq f21r16 f21n25 := by kernel_rfl
theorem f21n20_eq : f21n20 = .seq f21n21 f21n24 := by kernel_rfl
theorem f21r19_eq : f21r19 = .region 19 f21o19 false := by kernel_rfl
theorem f21r20_eq : f21r20 = .region 20 f21o20 false := by kernel_rfl
theorem f21n28_eq : f21n28 = .cond (cop f21n28) .skip f21r20 := by kernel_rfl
theorem f21n27_eq : f21n27 = .seq f21r19 f21n28 := by kernel_rfl
theorem f21r21_eq : f21r21 = .region 21 f21o21 false := by kernel_rfl
theorem f21r22_eq : f21r22 = .region 22 f21o22 false := by kernel_rfl
theorem f21n31_eq : f21n31 = .cond (cop f21n31) f21r22 .skip := by kernel_rfl
theorem f21n30_eq : f21n30 = .seq f21r21 f21n31 := by kernel_rfl
theorem f21r23_eq : f21r23 = .region 23 f21o23 false := by kernel_rfl
theorem f21r24_eq : f21r24 = .region 24 f21o24 false := by kernel_rfl
theorem f21r25_eq : f21r25 = .region 25 f21o25 false := by kernel_rfl
theorem f21r26_eq : f21r26 = .region 26 f21o26 false := by kernel_rfl
theorem f21n36_eq : f21n36 = .seq f21r26 .ret := by kernel_rfl
theorem f21r8_eq : f21r8 = .region 8 f21o8 true := by kernel_rfl
theorem f21n35_eq : f21n35 = .cond (cop f21n35) f21n36 f21r8 := by kernel_rfl
theorem f21n34_eq : f21n34 = .seq f21r25 f21n35 := by kernel_rfl
theorem f21n33_eq : f21n33 = .cond (cop f21n33) f21r24 f21n34 := by kernel_rfl
theorem f21n32_eq : f21n32 = .seq f21r23 f21n33 := by kernel_rfl
theorem f21n29_eq : f21n29 = .cond (cop f21n29) f21n30 f21n32 := by kernel_rfl
theorem f21n26_eq : f21n26 = .seq f21n27 f21n29 := by kernel_rfl
theorem f21n19_eq : f21n19 = .cond (cop f21n19) f21n20 f21n26 := by kernel_rfl
theorem f21n16_eq : f21n16 = .seq f21n17 f21n19 := by kernel_rfl
theorem f21n15_eq : f21n15 = .cond (cop f21n15) f21r11 f21n16 := by kernel_rfl
theorem f21n14_eq : f21n14 = .seq f21r10 f21n15 := by kernel_rfl
theorem f21n13_eq : f21n13 = .cond (cop f21n13) .skip f21n14 := by kernel_rfl
theorem f21n12_eq : f21n12 = .seq f21r9 f21n13 := by kernel_rfl
theorem f21n11_eq : f21n11 = .block 0 f21n12 := by kernel_rfl
theorem f21n10_eq : f21n10 = .seq f21r7 f21n11 := by kernel_rfl
theorem f21r27_eq : f21r27 = .region 27 f21o27 false := by kernel_rfl
theorem f21r28_eq : f21r28 = .region 28 f21o28 false := by kernel_rfl
theorem f21n38_eq : f21n38 = .seq f21r28 .ret := by kernel_rfl
theorem f21n37_eq : f21n37 = .seq f21r27 f21n38 := by kernel_rfl
theorem f21n9_eq : f21n9 = .seq f21n10 f21n37 := by kernel_rfl
theorem f21n8_eq : f21n8 = .seq f21r6 f21n9 := by kernel_rfl
theorem f21n7_eq : f21n7 = .seq f21r5 f21n8 := by kernel_rfl
theorem f21n6_eq : f21n6 = .seq f21r4 f21n7 := by kernel_rfl
theorem f21n5_eq : f21n5 = .seq f21r3 f21n6 := by kernel_rfl
theorem f21n1_eq : f21n1 = .seq f21n2 f21n5 := by kernel_rfl
theorem f21b_eq : f21b = .seq f21r0 f21n1 := by kernel_rfl
theorem f21_body : Try.f21.body = some f21b := by kernel_rfl
noncomputable def f17b : Code := Try.f17.body.getD .skip
noncomputable def f17r0 : Code := cl f17b
noncomputable def f17o0 : Array Oper := opsOf f17r0
noncomputable def f17n1 : Code := cr f17b
noncomputable def f17n2 : Code := cl f17n1
noncomputable def f17r1 : Code := cl f17n2
noncomputable def f17o1 : Array Oper := opsOf f17r1
noncomputable def f17n3 : Code := cr f17n2
noncomputable def f17n4 : Code := cl f17n3
noncomputable def f17r2 : Code := cl f17n4
noncomputable def f17o2 : Array Oper := opsOf f17r2
noncomputable def f17n5 : Code := cr f17n1
noncomputable def f17r3 : Code := cl f17n5
noncomputable def f17o3 : Array Oper := opsOf f17r3
noncomputable def f17n6 : Code := cr f17n5
noncomputable def f17r4 : Code := cl f17n6
noncomputable def f17o4 : Array Oper := opsOf f17r4
theorem f17r0_eq : f17r0 = .region 0 f17o0 false := by kernel_rfl
theorem f17r1_eq : f17r1 = .region 1 f17o1 false := by kernel_rfl
theorem f17r2_eq : f17r2 = .region 2 f17o2 false := by kernel_rfl
theorem f17n4_eq : f17n4 = .seq f17r2 .ret := by kernel_rfl
theorem f17n3_eq : f17n3 = .cond (cop f17n3) f17n4 .skip := by kernel_rfl
theorem f17n2_eq : f17n2 = .seq f17r1 f17n3 := by kernel_rfl
theorem f17r3_eq : f17r3 = .region 3 f17o3 false := by kernel_rfl
theorem f17r4_eq : f17r4 = .region 4 f17o4 false := by kernel_rfl
theorem f17n6_eq : f17n6 = .seq f17r4 .ret := by kernel_rfl
theorem f17n5_eq : f17n5 = .seq f17r3 f17n6 := by kernel_rfl
theorem f17n1_eq : f17n1 = .seq f17n2 f17n5 := by kernel_rfl
theorem f17b_eq : f17b = .seq f17r0 f17n1 := by kernel_rfl
theorem f17_body : Try.f17.body = some f17b := by kernel_rfl
noncomputable def f18b : Code := Try.f18.body.getD .skip
noncomputable def f18r0 : Code := cl f18b
noncomputable def f18o0 : Array Oper := opsOf f18r0
noncomputable def f18n1 : Code := cr f18b
noncomputable def f18n2 : Code := cl f18n1
noncomputable def f18r1 : Code := cl f18n2
noncomputable def f18o1 : Array Oper := opsOf f18r1
noncomputable def f18n3 : Code := cr f18n2
noncomputable def f18n4 : Code := cl f18n3
noncomputable def f18r2 : Code := cl f18n4
noncomputable def f18o2 : Array Oper := opsOf f18r2
noncomputable def f18n5 : Code := cr f18n1
noncomputable def f18r3 : Code := cl f18n5
noncomputable def f18o3 : Array Oper := opsOf f18r3
theorem f18r0_eq : f18r0 = .region 0 f18o0 false := by kernel_rfl
theorem f18r1_eq : f18r1 = .region 1 f18o1 false := by kernel_rfl
theorem f18r2_eq : f18r2 = .region 2 f18o2 false := by kernel_rfl
theorem f18n4_eq : f18n4 = .seq f18r2 .ret := by kernel_rfl
theorem f18n3_eq : f18n3 = .cond (cop f18n3) f18n4 .skip := by kernel_rfl
theorem f18n2_eq : f18n2 = .seq f18r1 f18n3 := by kernel_rfl
theorem f18r3_eq : f18r3 = .region 3 f18o3 false := by kernel_rfl
theorem f18n5_eq : f18n5 = .seq f18r3 .ret := by kernel_rfl
theorem f18n1_eq : f18n1 = .seq f18n2 f18n5 := by kernel_rfl
theorem f18b_eq : f18b = .seq f18r0 f18n1 := by kernel_rfl
theorem f18_body : Try.f18.body = some f18b := by kernel_rfl
noncomputable def f19b : Code := Try.f19.body.getD .skip
noncomputable def f19r0 : Code := cl f19b
noncomputable def f19o0 : Array Oper := opsOf f19r0
noncomputable def f19n1 : Code := cr f19b
noncomputable def f19n2 : Code := cl f19n1
noncomputable def f19r1 : Code := cl f19n2
noncomputable def f19o1 : Array Oper := opsOf f19r1
noncomputable def f19n3 : Code := cr f19n2
noncomputable def f19n4 : Code := cl f19n3
noncomputable def f19r2 : Code := cl f19n4
noncomputable def f19o2 : Array Oper := opsOf f19r2
noncomputable def f19n5 : Code := cr f19n1
noncomputable def f19r3 : Code := cl f19n5
noncomputable def f19o3 : Array Oper := opsOf f19r3
theorem f19r0_eq : f19r0 = .region 0 f19o0 false := by kernel_rfl
theorem f19r1_eq : f19r1 = .region 1 f19o1 false := by kernel_rfl
theorem f19r2_eq : f19r2 = .region 2 f19o2 false := by kernel_rfl
theorem f19n4_eq : f19n4 = .seq f19r2 .ret := by kernel_rfl
theorem f19n3_eq : f19n3 = .cond (cop f19n3) f19n4 .skip := by kernel_rfl
theorem f19n2_eq : f19n2 = .seq f19r1 f19n3 := by kernel_rfl
theorem f19r3_eq : f19r3 = .region 3 f19o3 false := by kernel_rfl
theorem f19n5_eq : f19n5 = .seq f19r3 .ret := by kernel_rfl
theorem f19n1_eq : f19n1 = .seq f19n2 f19n5 := by kernel_rfl
theorem f19b_eq : f19b = .seq f19r0 f19n1 := by kernel_rfl
theorem f19_body : Try.f19.body = some f19b := by kernel_rfl
noncomputable def f13b : Code := Try.f13.body.getD .skip
noncomputable def f13r0 : Code := cl f13b
noncomputable def f13o0 : Array Oper := opsOf f13r0
noncomputable def f13n1 : Code := cr f13b
noncomputable def f13r1 : Code := cl f13n1
noncomputable def f13o1 : Array Oper := opsOf f13r1
theorem f13r0_eq : f13r0 = .region 0 f13o0 false := by kernel_rfl
theorem f13r1_eq : f13r1 = .region 1 f13o1 false := by kernel_rfl
theorem f13n1_eq : f13n1 = .seq f13r1 .ret := by kernel_rfl
theorem f13b_eq : f13b = .seq f13r0 f13n1 := by kernel_rfl
theorem f13_body : Try.f13.body = some f13b := by kernel_rfl
noncomputable def f5b : Code := Try.f5.body.getD .skip
noncomputable def f5r0 : Code := cl f5b
noncomputable def f5o0 : Array Oper := opsOf f5r0
noncomputable def f5n1 : Code := cr f5b
noncomputable def f5r1 : Code := cl f5n1
noncomputable def f5o1 : Array Oper := opsOf f5r1
noncomputable def f5n2 : Code := cr f5n1
noncomputable def f5r2 : Code := cl f5n2
noncomputable def f5o2 : Array Oper := opsOf f5r2
noncomputable def f5n3 : Code := cr f5n2
noncomputable def f5n4 : Code := cl f5n3
noncomputable def f5r3 : Code := cl f5n4
noncomputable def f5o3 : Array Oper := opsOf f5r3
noncomputable def f5n5 : Code := cr f5n4
noncomputable def f5n6 : Code := cl f5n5
noncomputable def f5r4 : Code := cl f5n6
noncomputable def f5o4 : Array Oper := opsOf f5r4
noncomputable def f5n7 : Code := cr f5n3
noncomputable def f5n8 : Code := cl f5n7
noncomputable def f5r5 : Code := cl f5n8
noncomputable def f5o5 : Array Oper := opsOf f5r5
noncomputable def f5n9 : Code := cr f5n8
noncomputable def f5n10 : Code := cl f5n9
noncomputable def f5n11 : Code := cl f5n10
noncomputable def f5n12 : Code := cl f5n11
noncomputable def f5r6 : Code := cl f5n12
noncomputable def f5o6 : Array Oper := opsOf f5r6
noncomputable def f5n13 : Code := cr f5n12
noncomputable def f5n14 : Code := cr f5n11
noncomputable def f5n15 : Code := cl f5n14
noncomputable def f5n16 : Code := cl f5n15
noncomputable def f5r8 : Code := cl f5n16
noncomputable def f5o8 : Array Oper := opsOf f5r8
noncomputable def f5n17 : Code := cr f5n16
noncomputable def f5n18 : Code := cl f5n17
noncomputable def f5r9 : Code := cl f5n18
noncomputable def f5o9 : Array Oper := opsOf f5r9
noncomputable def f5r7 : Code := cr f5n14
noncomputable def f5o7 : Array Oper := opsOf f5r7
noncomputable def f5n19 : Code := cr f5n7
noncomputable def f5r10 : Code := cl f5n19
noncomputable def f5o10 : Array Oper := opsOf f5r10
noncomputable def f5n20 : Code := cr f5n19
noncomputable def f5n21 : Code := cl f5n20
noncomputable def f5r11 : Code := cl f5n21
noncomputable def f5o11 : Array Oper := opsOf f5r11
noncomputable def f5n22 : Code := cr f5n21
noncomputable def f5n23 : Code := cl f5n22
noncomputable def f5r12 : Code := cl f5n23
noncomputable def f5o12 : Array Oper := opsOf f5r12
noncomputable def f5n24 : Code := cr f5n20
noncomputable def f5n25 : Code := cl f5n24
noncomputable def f5r13 : Code := cl f5n25
noncomputable def f5o13 : Array Oper := opsOf f5r13
noncomputable def f5n26 : Code := cr f5n25
noncomputable def f5n27 : Code := cl f5n26
noncomputable def f5n28 : Code := cl f5n27
noncomputable def f5n29 : Code := cl f5n28
noncomputable def f5r14 : Code := cl f5n29
noncomputable def f5o14 : Array Oper := opsOf f5r14
noncomputable def f5n30 : Code := cr f5n29
noncomputable def f5n31 : Code := cr f5n28
noncomputable def f5n32 : Code := cl f5n31
noncomputable def f5n33 : Code := cl f5n32
noncomputable def f5r16 : Code := cl f5n33
noncomputable def f5o16 : Array Oper := opsOf f5r16
noncomputable def f5n34 : Code := cr f5n33
noncomputable def f5n35 : Code := cl f5n34
noncomputable def f5r17 : Code := cl f5n35
noncomputable def f5o17 : Array Oper := opsOf f5r17
noncomputable def f5r15 : Code := cr f5n31
noncomputable def f5o15 : Array Oper := opsOf f5r15
noncomputable def f5n36 : Code := cr f5n24
noncomputable def f5r18 : Code := cl f5n36
noncomputable def f5o18 : Array Oper := opsOf f5r18
theorem f5r0_eq : f5r0 = .region 0 f5o0 false := by kernel_rfl
theorem f5r1_eq : f5r1 = .region 1 f5o1 false := by kernel_rfl
theorem f5r2_eq : f5r2 = .region 2 f5o2 false := by kernel_rfl
theorem f5r3_eq : f5r3 = .region 3 f5o3 false := by kernel_rfl
theorem f5r4_eq : f5r4 = .region 4 f5o4 false := by kernel_rfl
theorem f5n6_eq : f5n6 = .seq f5r4 .ret := by kernel_rfl
theorem f5n5_eq : f5n5 = .cond (cop f5n5) f5n6 .skip := by kernel_rfl
theorem f5n4_eq : f5n4 = .seq f5r3 f5n5 := by kernel_rfl
theorem f5r5_eq : f5r5 = .region 5 f5o5 false := by kernel_rfl
theorem f5r6_eq : f5r6 = .region 6 f5o6 false := by kernel_rfl
theorem f5n13_eq : f5n13 = .cond (cop f5n13) .skip (.exit 0) := by kernel_rfl
theorem f5n12_eq : f5n12 = .seq f5r6 f5n13 := by kernel_rfl
theorem f5r8_eq : f5r8 = .region 8 f5o8 false := by kernel_rfl
theorem f5r9_eq : f5r9 = .region 9 f5o9 false := by kernel_rfl
theorem f5n18_eq : f5n18 = .seq f5r9 .ret := by kernel_rfl
theorem f5n17_eq : f5n17 = .cond (cop f5n17) f5n18 .skip := by kernel_rfl
theorem f5n16_eq : f5n16 = .seq f5r8 f5n17 := by kernel_rfl
theorem f5n15_eq : f5n15 = .block 1 f5n16 := by kernel_rfl
theorem f5r7_eq : f5r7 = .region 7 f5o7 false := by kernel_rfl
theorem f5n14_eq : f5n14 = .seq f5n15 f5r7 := by kernel_rfl
theorem f5n11_eq : f5n11 = .seq f5n12 f5n14 := by kernel_rfl
theorem f5n10_eq : f5n10 = .loop f5n11 := by kernel_rfl
theorem f5n9_eq : f5n9 = .block 0 f5n10 := by kernel_rfl
theorem f5n8_eq : f5n8 = .seq f5r5 f5n9 := by kernel_rfl
theorem f5r10_eq : f5r10 = .region 10 f5o10 false := by kernel_rfl
theorem f5r11_eq : f5r11 = .region 11 f5o11 false := by kernel_rfl
theorem f5r12_eq : f5r12 = .region 12 f5o12 false := by kernel_rfl
theorem f5n23_eq : f5n23 = .seq f5r12 .ret := by kernel_rfl
theorem f5n22_eq : f5n22 = .cond (cop f5n22) f5n23 .skip := by kernel_rfl
theorem f5n21_eq : f5n21 = .seq f5r11 f5n22 := by kernel_rfl
theorem f5r13_eq : f5r13 = .region 13 f5o13 false := by kernel_rfl
theorem f5r14_eq : f5r14 = .region 14 f5o14 false := by kernel_rfl
theorem f5n30_eq : f5n30 = .cond (cop f5n30) .skip (.exit 2) := by kernel_rfl
theorem f5n29_eq : f5n29 = .seq f5r14 f5n30 := by kernel_rfl
theorem f5r16_eq : f5r16 = .region 16 f5o16 false := by kernel_rfl
theorem f5r17_eq : f5r17 = .region 17 f5o17 false := by kernel_rfl
theorem f5n35_eq : f5n35 = .seq f5r17 .ret := by kernel_rfl
theorem f5n34_eq : f5n34 = .cond (cop f5n34) f5n35 .skip := by kernel_rfl
theorem f5n33_eq : f5n33 = .seq f5r16 f5n34 := by kernel_rfl
theorem f5n32_eq : f5n32 = .block 3 f5n33 := by kernel_rfl
theorem f5r15_eq : f5r15 = .region 15 f5o15 false := by kernel_rfl
theorem f5n31_eq : f5n31 = .seq f5n32 f5r15 := by kernel_rfl
theorem f5n28_eq : f5n28 = .seq f5n29 f5n31 := by kernel_rfl
theorem f5n27_eq : f5n27 = .loop f5n28 := by kernel_rfl
theorem f5n26_eq : f5n26 = .block 2 f5n27 := by kernel_rfl
theorem f5n25_eq : f5n25 = .seq f5r13 f5n26 := by kernel_rfl
theorem f5r18_eq : f5r18 = .region 18 f5o18 false := by kernel_rfl
theorem f5n36_eq : f5n36 = .seq f5r18 .ret := by kernel_rfl
theorem f5n24_eq : f5n24 = .seq f5n25 f5n36 := by kernel_rfl
theorem f5n20_eq : f5n20 = .seq f5n21 f5n24 := by kernel_rfl
theorem f5n19_eq : f5n19 = .seq f5r10 f5n20 := by kernel_rfl
theorem f5n7_eq : f5n7 = .seq f5n8 f5n19 := by kernel_rfl
theorem f5n3_eq : f5n3 = .seq f5n4 f5n7 := by kernel_rfl
theorem f5n2_eq : f5n2 = .seq f5r2 f5n3 := by kernel_rfl
theorem f5n1_eq : f5n1 = .seq f5r1 f5n2 := by kernel_rfl
theorem f5b_eq : f5b = .seq f5r0 f5n1 := by kernel_rfl
theorem f5_body : Try.f5.body = some f5b := by kernel_rfl
theorem fn21 : T4.fn 21 = some Try.f21 := by kernel_rfl
theorem fn17 : T4.fn 17 = some Try.f17 := by kernel_rfl
theorem fn18 : T4.fn 18 = some Try.f18 := by kernel_rfl
theorem fn19 : T4.fn 19 = some Try.f19 := by kernel_rfl
theorem fn13 : T4.fn 13 = some Try.f13 := by kernel_rfl
theorem fn5 : T4.fn 5 = some Try.f5 := by kernel_rfl
end Hs
end Go.Proofs.Ytjhijpfbokklcaa
