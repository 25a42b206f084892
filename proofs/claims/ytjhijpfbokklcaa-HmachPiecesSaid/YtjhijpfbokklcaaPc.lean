/- Chapter 4: reckon and alu. -/
import Derived.Test.YtjhijpfbokklcaaPb
namespace Go.Proofs.Ytjhijpfbokklcaa
open Go Go.Ev Go.RowKit
set_option linter.unusedVariables false
set_option linter.unusedSimpArgs false
set_option maxRecDepth 100000
namespace Hm
def binT2 : Op → TypeId
  | .binOp _ _ _ _ t => t
  | _ => 0
theorem ha_bin {P : Program} {T : Tab} {tm : Tr Value} {o : Oper} {H H' : Heap} {op : BinOp} {t : TypeId} {a b : Operand} {u v r : Value} (ho : o.op = .binOp op t a b (binT2 o.op)) (ha : aeval tm a = some u) (hb : aeval tm b = some v) (h : abin T op t u v = some r) (hH : H = H') : aop P T tm o H = some (.val r, H') := by
  subst hH
  unfold aop
  rw [ho]
  simp only [ha, hb, h, orVal, val]
theorem ab_shl {T : Tab} {t : TypeId} {k k' : IntKind} {a b : Int} (hb : decide (b < 0) = false) : abin T .shl t (.int k a) (.int k' b) = some (.int k (k.wrap (a * 2 ^ min b.toNat k.bits))) := by
  simp only [abin, isShift, cond_true, ishift, hb, cond_false]
theorem ab_shr {T : Tab} {t : TypeId} {k k' : IntKind} {a b : Int} (hb : decide (b < 0) = false) : abin T .shr t (.int k a) (.int k' b) = some (.int k (a.fdiv (2 ^ min b.toNat k.bits))) := by
  simp only [abin, isShift, cond_true, ishift, hb, cond_false]
theorem ab_quo {T : Tab} {t : TypeId} {k : IntKind} {a b : Int} (hb : (b == 0) = false) : abin T .quo t (.int k a) (.int k b) = some (.int k (k.wrap (a.tdiv b))) := by
  simp only [abin, isShift, cond_false, BEq.rfl, cond_true, ibin, hb]
/-- What an operation on two words gives. -/
def rck (op : Nat) (a b : Int) : Int := match op with
  | 2 => a
  | 3 => IntKind.u64.wrap (a + b)
  | 4 => IntKind.u64.wrap (a - b)
  | 5 => IntKind.u64.wrap (BitVec.ofInt 64 a &&& BitVec.ofInt 64 b).toNat
  | 6 => IntKind.u64.wrap (BitVec.ofInt 64 a ||| BitVec.ofInt 64 b).toNat
  | 7 => IntKind.u64.wrap (BitVec.ofInt 64 a ^^^ BitVec.ofInt 64 b).toNat
  | 8 => IntKind.u64.wrap (a * 2 ^ min b.toNat 64)
  | 9 => a.fdiv (2 ^ min b.toNat 64)
  | 10 => IntKind.u64.wrap (a * b)
  | 11 => bif b == 0 then 0 else IntKind.u64.wrap (a.tdiv b)
  | 12 => tru (decide (a < b))
  | _ => tru (a == b)
theorem wrap64_in (x : Int) : 0 ≤ IntKind.u64.wrap x ∧ IntKind.u64.wrap x < 18446744073709551616 := by
  simp only [IntKind.wrap]
  simp [IntKind.bits, IntKind.signed]
  omega
theorem tru_in (t : Bool) : 0 ≤ tru t ∧ tru t < 18446744073709551616 := by cases t <;> decide
theorem rck_in (op : Nat) {a b : Int} (ha : u64B a = true) (hb : u64B b = true) : 0 ≤ rck op a b ∧ rck op a b < 18446744073709551616 := by
  simp only [u64B, Bool.and_eq_true, decide_eq_true_eq] at ha hb
  unfold rck
  split
  · exact ha
  · exact wrap64_in _
  · exact wrap64_in _
  · exact wrap64_in _
  · exact wrap64_in _
  · exact wrap64_in _
  · exact wrap64_in _
  · obtain ⟨n, rfl⟩ : ∃ n : Nat, a = n := ⟨a.toNat, by omega⟩
    rw [Int.fdiv_eq_ediv_of_nonneg _ (by exact Int.le_of_lt (Int.pow_pos (by decide)))]
    constructor
    · exact Int.ediv_nonneg (by omega) (Int.le_of_lt (Int.pow_pos (by decide)))
    · refine Int.lt_of_le_of_lt (Int.ediv_le_self _ (by omega)) ha.2
  · exact wrap64_in _
  · cases b == 0
    · exact wrap64_in _
    · simp only [cond_true]; omega
  · exact tru_in _
  · exact tru_in _
theorem rck_shl {a b : Int} (hb : 64 ≤ b) : rck 8 a b = 0 := by
  unfold rck
  have : min b.toNat 64 = 64 := by omega
  rw [this]
  simp only [IntKind.wrap]
  simp [IntKind.bits, IntKind.signed]
theorem rck_shr {a b : Int} (ha : u64B a = true) (hb : 64 ≤ b) : rck 9 a b = 0 := by
  simp only [u64B, Bool.and_eq_true, decide_eq_true_eq] at ha
  unfold rck
  have : min b.toNat 64 = 64 := by omega
  rw [this, Int.fdiv_eq_ediv_of_nonneg _ (by decide)]
  exact Int.ediv_eq_zero_of_lt ha.1 (by have := ha.2; simp; omega)
def aluB (lo op a b : Int) : Bool := decide (lo ≤ op) && decide (op ≤ 13) && u64B a && u64B b
theorem aluB_of {lo op a b : Int} (h : aluB lo op a b = true) : lo ≤ op ∧ op ≤ 13 ∧ u64B a = true ∧ u64B b = true := by
  simp only [aluB, Bool.and_eq_true, decide_eq_true_eq] at h
  exact ⟨h.1.1.1, h.1.1.2, h.1.2, h.2⟩
noncomputable def f31b : Code := Try.f31.body.getD .skip
theorem f31_body : Try.f31.body = some f31b := by kernel_rfl
theorem f31_fn : T6.fn 31 = some Try.f31 := by kernel_rfl
theorem f31_2 {a b : Int} (hu : u64B a = true) (h1 : 0 ≤ a) (h2 : a < 18446744073709551616) (h3 : 0 ≤ b) (h4 : b < 18446744073709551616) : ACall Try.prog T6 31 #[.int .i64 2, .int .u64 a, .int .u64 b] ⟨.lf, 0⟩ fun r _ => r = .int .u64 (rck 2 a b) := by
  refine acall_cf 68 (initTm 0 #[.int .i64 2, .int .u64 a, .int .u64 b]) rfl f31_fn f31_body rfl rfl ?_
  refine cf_go 28 ?_
  refine cf_end (.int .u64 a) _ (by kernel_rfl) (by kernel_rfl) rfl ?_
  rfl
theorem f31_3 {a b : Int} (hu : u64B a = true) (h1 : 0 ≤ a) (h2 : a < 18446744073709551616) (h3 : 0 ≤ b) (h4 : b < 18446744073709551616) : ACall Try.prog T6 31 #[.int .i64 3, .int .u64 a, .int .u64 b] ⟨.lf, 0⟩ fun r _ => r = .int .u64 (rck 3 a b) := by
  refine acall_cf 68 (initTm 0 #[.int .i64 3, .int .u64 a, .int .u64 b]) rfl f31_fn f31_body rfl rfl ?_
  refine cf_go 37 ?_
  refine cf_end (.int .u64 (IntKind.u64.wrap (a + b))) _ (by kernel_rfl) (by kernel_rfl) rfl ?_
  rfl
theorem f31_4 {a b : Int} (hu : u64B a = true) (h1 : 0 ≤ a) (h2 : a < 18446744073709551616) (h3 : 0 ≤ b) (h4 : b < 18446744073709551616) : ACall Try.prog T6 31 #[.int .i64 4, .int .u64 a, .int .u64 b] ⟨.lf, 0⟩ fun r _ => r = .int .u64 (rck 4 a b) := by
  refine acall_cf 68 (initTm 0 #[.int .i64 4, .int .u64 a, .int .u64 b]) rfl f31_fn f31_body rfl rfl ?_
  refine cf_go 44 ?_
  refine cf_end (.int .u64 (IntKind.u64.wrap (a - b))) _ (by kernel_rfl) (by kernel_rfl) rfl ?_
  rfl
theorem f31_5 {a b : Int} (hu : u64B a = true) (h1 : 0 ≤ a) (h2 : a < 18446744073709551616) (h3 : 0 ≤ b) (h4 : b < 18446744073709551616) : ACall Try.prog T6 31 #[.int .i64 5, .int .u64 a, .int .u64 b] ⟨.lf, 0⟩ fun r _ => r = .int .u64 (rck 5 a b) := by
  refine acall_cf 68 (initTm 0 #[.int .i64 5, .int .u64 a, .int .u64 b]) rfl f31_fn f31_body rfl rfl ?_
  refine cf_go 51 ?_
  refine cf_end (.int .u64 (IntKind.u64.wrap (((BitVec.ofInt 64 a &&& BitVec.ofInt 64 b).toNat : Nat) : Int))) _ (by kernel_rfl) (by kernel_rfl) rfl ?_
  rfl
theorem f31_6 {a b : Int} (hu : u64B a = true) (h1 : 0 ≤ a) (h2 : a < 18446744073709551616) (h3 : 0 ≤ b) (h4 : b < 18446744073709551616) : ACall Try.prog T6 31 #[.int .i64 6, .int .u64 a, .int .u64 b] ⟨.lf, 0⟩ fun r _ => r = .int .u64 (rck 6 a b) := by
  refine acall_cf 68 (initTm 0 #[.int .i64 6, .int .u64 a, .int .u64 b]) rfl f31_fn f31_body rfl rfl ?_
  refine cf_go 58 ?_
  refine cf_end (.int .u64 (IntKind.u64.wrap (((BitVec.ofInt 64 a ||| BitVec.ofInt 64 b).toNat : Nat) : Int))) _ (by kernel_rfl) (by kernel_rfl) rfl ?_
  rfl
theorem f31_7 {a b : Int} (hu : u64B a = true) (h1 : 0 ≤ a) (h2 : a < 18446744073709551616) (h3 : 0 ≤ b) (h4 : b < 18446744073709551616) : ACall Try.prog T6 31 #[.int .i64 7, .int .u64 a, .int .u64 b] ⟨.lf, 0⟩ fun r _ => r = .int .u64 (rck 7 a b) := by
  refine acall_cf 68 (initTm 0 #[.int .i64 7, .int .u64 a, .int .u64 b]) rfl f31_fn f31_body rfl rfl ?_
  refine cf_go 65 ?_
  refine cf_end (.int .u64 (IntKind.u64.wrap (((BitVec.ofInt 64 a ^^^ BitVec.ofInt 64 b).toNat : Nat) : Int))) _ (by kernel_rfl) (by kernel_rfl) rfl ?_
  rfl
theorem f31_8 {a b : Int} (hu : u64B a = true) (h1 : 0 ≤ a) (h2 : a < 18446744073709551616) (h3 : 0 ≤ b) (h4 : b < 18446744073709551616) : ACall Try.prog T6 31 #[.int .i64 8, .int .u64 a, .int .u64 b] ⟨.lf, 0⟩ fun r _ => r = .int .u64 (rck 8 a b) := by
  refine acall_cf 68 (initTm 0 #[.int .i64 8, .int .u64 a, .int .u64 b]) rfl f31_fn f31_body rfl rfl ?_
  refine cf_go 65 ?_
  refine cf_val 40 (.int .u64 (IntKind.u64.wrap (a * 2 ^ min (b : Int).toNat IntKind.u64.bits))) (⟨heapOf [], 0⟩ : Heap) (by kernel_rfl) (ha_bin (op := .shl) (t := 42) (a := .tmp 38) (b := .tmp 39) (u := .int .u64 a) (v := .int .u64 b) (by kernel_rfl) (by kernel_rfl) (by kernel_rfl) (ab_shl (decide_eq_false (by omega))) (by kernel_rfl)) ?_
  refine cf_go 6 ?_
  refine cf_end (.int .u64 (IntKind.u64.wrap (a * 2 ^ min (b : Int).toNat IntKind.u64.bits))) _ (by kernel_rfl) (by kernel_rfl) rfl ?_
  rfl
theorem f31_9 {a b : Int} (hu : u64B a = true) (h1 : 0 ≤ a) (h2 : a < 18446744073709551616) (h3 : 0 ≤ b) (h4 : b < 18446744073709551616) : ACall Try.prog T6 31 #[.int .i64 9, .int .u64 a, .int .u64 b] ⟨.lf, 0⟩ fun r _ => r = .int .u64 (rck 9 a b) := by
  refine acall_cf 68 (initTm 0 #[.int .i64 9, .int .u64 a, .int .u64 b]) rfl f31_fn f31_body rfl rfl ?_
  refine cf_go 72 ?_
  refine cf_val 45 (.int .u64 (Int.fdiv a (2 ^ min (b : Int).toNat IntKind.u64.bits))) (⟨heapOf [], 0⟩ : Heap) (by kernel_rfl) (ha_bin (op := .shr) (t := 42) (a := .tmp 43) (b := .tmp 44) (u := .int .u64 a) (v := .int .u64 b) (by kernel_rfl) (by kernel_rfl) (by kernel_rfl) (ab_shr (decide_eq_false (by omega))) (by kernel_rfl)) ?_
  refine cf_go 6 ?_
  refine cf_end (.int .u64 (Int.fdiv a (2 ^ min (b : Int).toNat IntKind.u64.bits))) _ (by kernel_rfl) (by kernel_rfl) rfl ?_
  rfl
theorem f31_10 {a b : Int} (hu : u64B a = true) (h1 : 0 ≤ a) (h2 : a < 18446744073709551616) (h3 : 0 ≤ b) (h4 : b < 18446744073709551616) : ACall Try.prog T6 31 #[.int .i64 10, .int .u64 a, .int .u64 b] ⟨.lf, 0⟩ fun r _ => r = .int .u64 (rck 10 a b) := by
  refine acall_cf 68 (initTm 0 #[.int .i64 10, .int .u64 a, .int .u64 b]) rfl f31_fn f31_body rfl rfl ?_
  refine cf_go 86 ?_
  refine cf_end (.int .u64 (IntKind.u64.wrap (a * b))) _ (by kernel_rfl) (by kernel_rfl) rfl ?_
  rfl
theorem f31_11 {a b : Int} (hu : u64B a = true) (h1 : 0 ≤ a) (h2 : a < 18446744073709551616) (h3 : 0 ≤ b) (h4 : b < 18446744073709551616) : ACall Try.prog T6 31 #[.int .i64 11, .int .u64 a, .int .u64 b] ⟨.lf, 0⟩ fun r _ => r = .int .u64 (rck 11 a b) := by
  refine acall_cf 68 (initTm 0 #[.int .i64 11, .int .u64 a, .int .u64 b]) rfl f31_fn f31_body rfl rfl ?_
  refine cf_go 89 ?_
  rcases Bool.eq_false_or_eq_true (((b : Int) == 0)) with hc1 | hc1
  · skip
    refine cf_see 54 (.bool true) (see_bool (by kernel_rfl) hc1) ?_
    refine cf_go 10 ?_
    refine cf_end (.int .u64 0) _ (by kernel_rfl) (by kernel_rfl) rfl ?_
    simp only [decide_eq_true_eq, decide_eq_false_iff_not, beq_iff_eq, beq_eq_false_iff_ne] at hc1
    have e : (b == 0) = true := beq_iff_eq.2 (by omega)
    simp only [rck, e, cond_true]
  · skip
    refine cf_see 54 (.bool false) (see_bool (by kernel_rfl) hc1) ?_
    refine cf_go 7 ?_
    refine cf_val 57 (.int .u64 (IntKind.u64.wrap (Int.tdiv a b))) (⟨heapOf [], 0⟩ : Heap) (by kernel_rfl) (ha_bin (op := .quo) (t := 42) (a := .tmp 55) (b := .tmp 56) (u := .int .u64 a) (v := .int .u64 b) (by kernel_rfl) (by kernel_rfl) (by kernel_rfl) (ab_quo (by first | assumption | (refine beq_eq_false_iff_ne.2 ?_; simp only [decide_eq_true_eq, decide_eq_false_iff_not, beq_eq_false_iff_ne] at *; omega))) (by kernel_rfl)) ?_
    refine cf_go 6 ?_
    refine cf_end (.int .u64 (IntKind.u64.wrap (Int.tdiv a b))) _ (by kernel_rfl) (by kernel_rfl) rfl ?_
    simp only [decide_eq_true_eq, decide_eq_false_iff_not, beq_iff_eq, beq_eq_false_iff_ne] at hc1
    have e : (b == 0) = false := beq_eq_false_iff_ne.2 (by omega)
    simp only [rck, e, cond_false]
theorem f31_12 {a b : Int} (hu : u64B a = true) (h1 : 0 ≤ a) (h2 : a < 18446744073709551616) (h3 : 0 ≤ b) (h4 : b < 18446744073709551616) : ACall Try.prog T6 31 #[.int .i64 12, .int .u64 a, .int .u64 b] ⟨.lf, 0⟩ fun r _ => r = .int .u64 (rck 12 a b) := by
  refine acall_cf 68 (initTm 0 #[.int .i64 12, .int .u64 a, .int .u64 b]) rfl f31_fn f31_body rfl rfl ?_
  refine cf_go 94 ?_
  refine cf_ask 63 (.int .u64 (tru (decide ((a : Int) < b)))) 36 #[.bool (decide ((a : Int) < b))] (by kernel_rfl) (by kernel_rfl) rfl ?_
  refine cf_go 6 ?_
  refine cf_end (.int .u64 (tru (decide ((a : Int) < b)))) _ (by kernel_rfl) (by kernel_rfl) rfl ?_
  rfl
theorem f31_13 {a b : Int} (hu : u64B a = true) (h1 : 0 ≤ a) (h2 : a < 18446744073709551616) (h3 : 0 ≤ b) (h4 : b < 18446744073709551616) : ACall Try.prog T6 31 #[.int .i64 13, .int .u64 a, .int .u64 b] ⟨.lf, 0⟩ fun r _ => r = .int .u64 (rck 13 a b) := by
  refine acall_cf 68 (initTm 0 #[.int .i64 13, .int .u64 a, .int .u64 b]) rfl f31_fn f31_body rfl rfl ?_
  refine cf_go 97 ?_
  refine cf_ask 67 (.int .u64 (tru ((a : Int) == b))) 36 #[.bool ((a : Int) == b)] (by kernel_rfl) (by kernel_rfl) rfl ?_
  refine cf_go 4 ?_
  refine cf_end (.int .u64 (tru ((a : Int) == b))) _ (by kernel_rfl) (by kernel_rfl) rfl ?_
  rfl
theorem f31_any {op a b : Int} (h : aluB 2 op a b = true) : ACall Try.prog T6 31 #[.int .i64 op, .int .u64 a, .int .u64 b] ⟨.lf, 0⟩ fun r _ => r = .int .u64 (rck op.toNat a b) := by
  obtain ⟨h1, h2, ha, hb⟩ := aluB_of h
  have ha' := ha; have hb' := hb
  simp only [u64B, Bool.and_eq_true, decide_eq_true_eq] at ha' hb'
  rcases (by omega : op = 2 ∨ op = 3 ∨ op = 4 ∨ op = 5 ∨ op = 6 ∨ op = 7 ∨ op = 8 ∨ op = 9 ∨ op = 10 ∨ op = 11 ∨ op = 12 ∨ op = 13) with rfl | rfl | rfl | rfl | rfl | rfl | rfl | rfl | rfl | rfl | rfl | rfl
  · exact f31_2 ha ha'.1 ha'.2 hb'.1 hb'.2
  · exact f31_3 ha ha'.1 ha'.2 hb'.1 hb'.2
  · exact f31_4 ha ha'.1 ha'.2 hb'.1 hb'.2
  · exact f31_5 ha ha'.1 ha'.2 hb'.1 hb'.2
  · exact f31_6 ha ha'.1 ha'.2 hb'.1 hb'.2
  · exact f31_7 ha ha'.1 ha'.2 hb'.1 hb'.2
  · exact f31_8 ha ha'.1 ha'.2 hb'.1 hb'.2
  · exact f31_9 ha ha'.1 ha'.2 hb'.1 hb'.2
  · exact f31_10 ha ha'.1 ha'.2 hb'.1 hb'.2
  · exact f31_11 ha ha'.1 ha'.2 hb'.1 hb'.2
  · exact f31_12 ha ha'.1 ha'.2 hb'.1 hb'.2
  · exact f31_13 ha ha'.1 ha'.2 hb'.1 hb'.2
def sp31 : List Value → Option Value
  | [.int .i64 op, .int .u64 a, .int .u64 b] => bif aluB 2 op a b then some (.int .u64 (rck op.toNat a b)) else none
  | _ => none
noncomputable def T7 : Tab := { T6 with orc := addOrc T6.orc 31 sp31 }
theorem progOk7 [Bs] : ProgOk Try.prog T7 := progOk6.know 31 sp31 fun args v h => by
  unfold sp31 at h
  split at h
  · rename_i op a b; cases hb : (aluB 2 op a b)
    · rw [hb] at h; cases h
    · rw [hb] at h; cases h
      exact ⟨rfl, rfl, f31_any hb⟩
  · cases h
theorem orc31 (op : Int) (a : Int) (b : Int) (h : aluB 2 op a b = true) : sp31 [.int .i64 op, .int .u64 a, .int .u64 b] = some (.int .u64 (rck op.toNat a b)) := by
  simp only [sp31, h, cond_true]
noncomputable def f32b : Code := Try.f32.body.getD .skip
theorem f32_body : Try.f32.body = some f32b := by kernel_rfl
theorem f32_fn : T7.fn 32 = some Try.f32 := by kernel_rfl
theorem f32_3 {a b : Int} (hu : u64B a = true) (h1 : 0 ≤ a) (h2 : a < 18446744073709551616) (h3 : 0 ≤ b) (h4 : b < 18446744073709551616) : ACall Try.prog T7 32 #[.int .i64 3, .int .u64 a, .int .u64 b] ⟨.lf, 0⟩ fun r _ => r = .int .u64 (rck 3 a b) := by
  refine acall_cf 75 (initTm 0 #[.int .i64 3, .int .u64 a, .int .u64 b]) rfl f32_fn f32_body rfl rfl ?_
  refine cf_go 30 ?_
  refine cf_end (.int .u64 (IntKind.u64.wrap (a + b))) _ (by kernel_rfl) (by kernel_rfl) rfl ?_
  rfl
theorem f32_4 {a b : Int} (hu : u64B a = true) (h1 : 0 ≤ a) (h2 : a < 18446744073709551616) (h3 : 0 ≤ b) (h4 : b < 18446744073709551616) : ACall Try.prog T7 32 #[.int .i64 4, .int .u64 a, .int .u64 b] ⟨.lf, 0⟩ fun r _ => r = .int .u64 (rck 4 a b) := by
  refine acall_cf 75 (initTm 0 #[.int .i64 4, .int .u64 a, .int .u64 b]) rfl f32_fn f32_body rfl rfl ?_
  refine cf_go 37 ?_
  refine cf_end (.int .u64 (IntKind.u64.wrap (a - b))) _ (by kernel_rfl) (by kernel_rfl) rfl ?_
  rfl
theorem f32_5 {a b : Int} (hu : u64B a = true) (h1 : 0 ≤ a) (h2 : a < 18446744073709551616) (h3 : 0 ≤ b) (h4 : b < 18446744073709551616) : ACall Try.prog T7 32 #[.int .i64 5, .int .u64 a, .int .u64 b] ⟨.lf, 0⟩ fun r _ => r = .int .u64 (rck 5 a b) := by
  refine acall_cf 75 (initTm 0 #[.int .i64 5, .int .u64 a, .int .u64 b]) rfl f32_fn f32_body rfl rfl ?_
  refine cf_go 44 ?_
  refine cf_end (.int .u64 (IntKind.u64.wrap (((BitVec.ofInt 64 a &&& BitVec.ofInt 64 b).toNat : Nat) : Int))) _ (by kernel_rfl) (by kernel_rfl) rfl ?_
  rfl
theorem f32_6 {a b : Int} (hu : u64B a = true) (h1 : 0 ≤ a) (h2 : a < 18446744073709551616) (h3 : 0 ≤ b) (h4 : b < 18446744073709551616) : ACall Try.prog T7 32 #[.int .i64 6, .int .u64 a, .int .u64 b] ⟨.lf, 0⟩ fun r _ => r = .int .u64 (rck 6 a b) := by
  refine acall_cf 75 (initTm 0 #[.int .i64 6, .int .u64 a, .int .u64 b]) rfl f32_fn f32_body rfl rfl ?_
  refine cf_go 51 ?_
  refine cf_end (.int .u64 (IntKind.u64.wrap (((BitVec.ofInt 64 a ||| BitVec.ofInt 64 b).toNat : Nat) : Int))) _ (by kernel_rfl) (by kernel_rfl) rfl ?_
  rfl
theorem f32_7 {a b : Int} (hu : u64B a = true) (h1 : 0 ≤ a) (h2 : a < 18446744073709551616) (h3 : 0 ≤ b) (h4 : b < 18446744073709551616) : ACall Try.prog T7 32 #[.int .i64 7, .int .u64 a, .int .u64 b] ⟨.lf, 0⟩ fun r _ => r = .int .u64 (rck 7 a b) := by
  refine acall_cf 75 (initTm 0 #[.int .i64 7, .int .u64 a, .int .u64 b]) rfl f32_fn f32_body rfl rfl ?_
  refine cf_go 58 ?_
  refine cf_end (.int .u64 (IntKind.u64.wrap (((BitVec.ofInt 64 a ^^^ BitVec.ofInt 64 b).toNat : Nat) : Int))) _ (by kernel_rfl) (by kernel_rfl) rfl ?_
  rfl
theorem f32_8 {a b : Int} (hu : u64B a = true) (h1 : 0 ≤ a) (h2 : a < 18446744073709551616) (h3 : 0 ≤ b) (h4 : b < 18446744073709551616) : ACall Try.prog T7 32 #[.int .i64 8, .int .u64 a, .int .u64 b] ⟨.lf, 0⟩ fun r _ => r = .int .u64 (rck 8 a b) := by
  refine acall_cf 75 (initTm 0 #[.int .i64 8, .int .u64 a, .int .u64 b]) rfl f32_fn f32_body rfl rfl ?_
  refine cf_go 61 ?_
  rcases Bool.eq_false_or_eq_true ((decide ((b : Int) < 64))) with hc1 | hc1
  · skip
    refine cf_see 36 (.bool true) (see_bool (by kernel_rfl) hc1) ?_
    refine cf_go 5 ?_
    refine cf_val 39 (.int .u64 (IntKind.u64.wrap (a * 2 ^ min (b : Int).toNat IntKind.u64.bits))) (⟨heapOf [], 0⟩ : Heap) (by kernel_rfl) (ha_bin (op := .shl) (t := 42) (a := .tmp 37) (b := .tmp 38) (u := .int .u64 a) (v := .int .u64 b) (by kernel_rfl) (by kernel_rfl) (by kernel_rfl) (ab_shl (decide_eq_false (by omega))) (by kernel_rfl)) ?_
    refine cf_go 7 ?_
    refine cf_end (.int .u64 (IntKind.u64.wrap (a * 2 ^ min (b : Int).toNat IntKind.u64.bits))) _ (by kernel_rfl) (by kernel_rfl) rfl ?_
    rfl
  · skip
    refine cf_see 36 (.bool false) (see_bool (by kernel_rfl) hc1) ?_
    refine cf_go 11 ?_
    refine cf_end (.int .u64 0) _ (by kernel_rfl) (by kernel_rfl) rfl ?_
    simp only [decide_eq_false_iff_not] at hc1
    rw [rck_shl (by omega)]
theorem f32_9 {a b : Int} (hu : u64B a = true) (h1 : 0 ≤ a) (h2 : a < 18446744073709551616) (h3 : 0 ≤ b) (h4 : b < 18446744073709551616) : ACall Try.prog T7 32 #[.int .i64 9, .int .u64 a, .int .u64 b] ⟨.lf, 0⟩ fun r _ => r = .int .u64 (rck 9 a b) := by
  refine acall_cf 75 (initTm 0 #[.int .i64 9, .int .u64 a, .int .u64 b]) rfl f32_fn f32_body rfl rfl ?_
  refine cf_go 68 ?_
  rcases Bool.eq_false_or_eq_true ((decide ((b : Int) < 64))) with hc1 | hc1
  · skip
    refine cf_see 43 (.bool true) (see_bool (by kernel_rfl) hc1) ?_
    refine cf_go 5 ?_
    refine cf_val 46 (.int .u64 (Int.fdiv a (2 ^ min (b : Int).toNat IntKind.u64.bits))) (⟨heapOf [], 0⟩ : Heap) (by kernel_rfl) (ha_bin (op := .shr) (t := 42) (a := .tmp 44) (b := .tmp 45) (u := .int .u64 a) (v := .int .u64 b) (by kernel_rfl) (by kernel_rfl) (by kernel_rfl) (ab_shr (decide_eq_false (by omega))) (by kernel_rfl)) ?_
    refine cf_go 7 ?_
    refine cf_end (.int .u64 (Int.fdiv a (2 ^ min (b : Int).toNat IntKind.u64.bits))) _ (by kernel_rfl) (by kernel_rfl) rfl ?_
    rfl
  · skip
    refine cf_see 43 (.bool false) (see_bool (by kernel_rfl) hc1) ?_
    refine cf_go 11 ?_
    refine cf_end (.int .u64 0) _ (by kernel_rfl) (by kernel_rfl) rfl ?_
    simp only [decide_eq_false_iff_not] at hc1
    rw [rck_shr hu (by omega)]
theorem f32_10 {a b : Int} (hu : u64B a = true) (h1 : 0 ≤ a) (h2 : a < 18446744073709551616) (h3 : 0 ≤ b) (h4 : b < 18446744073709551616) : ACall Try.prog T7 32 #[.int .i64 10, .int .u64 a, .int .u64 b] ⟨.lf, 0⟩ fun r _ => r = .int .u64 (rck 10 a b) := by
  refine acall_cf 75 (initTm 0 #[.int .i64 10, .int .u64 a, .int .u64 b]) rfl f32_fn f32_body rfl rfl ?_
  refine cf_go 79 ?_
  refine cf_end (.int .u64 (IntKind.u64.wrap (a * b))) _ (by kernel_rfl) (by kernel_rfl) rfl ?_
  rfl
theorem f32_11 {a b : Int} (hu : u64B a = true) (h1 : 0 ≤ a) (h2 : a < 18446744073709551616) (h3 : 0 ≤ b) (h4 : b < 18446744073709551616) : ACall Try.prog T7 32 #[.int .i64 11, .int .u64 a, .int .u64 b] ⟨.lf, 0⟩ fun r _ => r = .int .u64 (rck 11 a b) := by
  refine acall_cf 75 (initTm 0 #[.int .i64 11, .int .u64 a, .int .u64 b]) rfl f32_fn f32_body rfl rfl ?_
  refine cf_go 82 ?_
  rcases Bool.eq_false_or_eq_true ((decide ((b : Int) > 0))) with hc1 | hc1
  · skip
    refine cf_see 55 (.bool true) (see_bool (by kernel_rfl) hc1) ?_
    refine cf_go 5 ?_
    refine cf_val 58 (.int .u64 (IntKind.u64.wrap (Int.tdiv a b))) (⟨heapOf [], 0⟩ : Heap) (by kernel_rfl) (ha_bin (op := .quo) (t := 42) (a := .tmp 56) (b := .tmp 57) (u := .int .u64 a) (v := .int .u64 b) (by kernel_rfl) (by kernel_rfl) (by kernel_rfl) (ab_quo (by first | assumption | (refine beq_eq_false_iff_ne.2 ?_; simp only [decide_eq_true_eq, decide_eq_false_iff_not, beq_eq_false_iff_ne] at *; omega))) (by kernel_rfl)) ?_
    refine cf_go 7 ?_
    refine cf_end (.int .u64 (IntKind.u64.wrap (Int.tdiv a b))) _ (by kernel_rfl) (by kernel_rfl) rfl ?_
    simp only [decide_eq_true_eq, decide_eq_false_iff_not, beq_iff_eq, beq_eq_false_iff_ne] at hc1
    have e : (b == 0) = false := beq_eq_false_iff_ne.2 (by omega)
    simp only [rck, e, cond_false]
  · skip
    refine cf_see 55 (.bool false) (see_bool (by kernel_rfl) hc1) ?_
    refine cf_go 11 ?_
    refine cf_end (.int .u64 0) _ (by kernel_rfl) (by kernel_rfl) rfl ?_
    simp only [decide_eq_true_eq, decide_eq_false_iff_not, beq_iff_eq, beq_eq_false_iff_ne] at hc1
    have e : (b == 0) = true := beq_iff_eq.2 (by omega)
    simp only [rck, e, cond_true]
theorem f32_12 {a b : Int} (hu : u64B a = true) (h1 : 0 ≤ a) (h2 : a < 18446744073709551616) (h3 : 0 ≤ b) (h4 : b < 18446744073709551616) : ACall Try.prog T7 32 #[.int .i64 12, .int .u64 a, .int .u64 b] ⟨.lf, 0⟩ fun r _ => r = .int .u64 (rck 12 a b) := by
  refine acall_cf 75 (initTm 0 #[.int .i64 12, .int .u64 a, .int .u64 b]) rfl f32_fn f32_body rfl rfl ?_
  refine cf_go 89 ?_
  rcases Bool.eq_false_or_eq_true ((decide ((a : Int) < b))) with hc1 | hc1
  · skip
    refine cf_see 66 (.bool true) (see_bool (by kernel_rfl) hc1) ?_
    refine cf_go 18 ?_
    refine cf_end (.int .u64 1) _ (by kernel_rfl) (by kernel_rfl) rfl ?_
    simp only [decide_eq_true_eq, decide_eq_false_iff_not, beq_iff_eq, beq_eq_false_iff_ne] at hc1
    have e : decide (a < b) = true := decide_eq_true (by omega)
    simp only [rck, tru, e, cond_true]
  · skip
    refine cf_see 66 (.bool false) (see_bool (by kernel_rfl) hc1) ?_
    refine cf_go 19 ?_
    refine cf_end (.int .u64 0) _ (by kernel_rfl) (by kernel_rfl) rfl ?_
    simp only [decide_eq_true_eq, decide_eq_false_iff_not, beq_iff_eq, beq_eq_false_iff_ne] at hc1
    have e : decide (a < b) = false := decide_eq_false (by omega)
    simp only [rck, tru, e, cond_false]
theorem f32_13 {a b : Int} (hu : u64B a = true) (h1 : 0 ≤ a) (h2 : a < 18446744073709551616) (h3 : 0 ≤ b) (h4 : b < 18446744073709551616) : ACall Try.prog T7 32 #[.int .i64 13, .int .u64 a, .int .u64 b] ⟨.lf, 0⟩ fun r _ => r = .int .u64 (rck 13 a b) := by
  refine acall_cf 75 (initTm 0 #[.int .i64 13, .int .u64 a, .int .u64 b]) rfl f32_fn f32_body rfl rfl ?_
  refine cf_go 99 ?_
  rcases Bool.eq_false_or_eq_true (((a : Int) == b)) with hc1 | hc1
  · skip
    refine cf_see 74 (.bool true) (see_bool (by kernel_rfl) hc1) ?_
    refine cf_go 8 ?_
    refine cf_end (.int .u64 1) _ (by kernel_rfl) (by kernel_rfl) rfl ?_
    simp only [decide_eq_true_eq, decide_eq_false_iff_not, beq_iff_eq, beq_eq_false_iff_ne] at hc1
    have e : (a == b) = true := beq_iff_eq.2 (by omega)
    simp only [rck, tru, e, cond_true]
  · skip
    refine cf_see 74 (.bool false) (see_bool (by kernel_rfl) hc1) ?_
    refine cf_go 9 ?_
    refine cf_end (.int .u64 0) _ (by kernel_rfl) (by kernel_rfl) rfl ?_
    simp only [decide_eq_true_eq, decide_eq_false_iff_not, beq_iff_eq, beq_eq_false_iff_ne] at hc1
    have e : (a == b) = false := beq_eq_false_iff_ne.2 (by omega)
    simp only [rck, tru, e, cond_false]
theorem f32_any {op a b : Int} (h : aluB 3 op a b = true) : ACall Try.prog T7 32 #[.int .i64 op, .int .u64 a, .int .u64 b] ⟨.lf, 0⟩ fun r _ => r = .int .u64 (rck op.toNat a b) := by
  obtain ⟨h1, h2, ha, hb⟩ := aluB_of h
  have ha' := ha; have hb' := hb
  simp only [u64B, Bool.and_eq_true, decide_eq_true_eq] at ha' hb'
  rcases (by omega : op = 3 ∨ op = 4 ∨ op = 5 ∨ op = 6 ∨ op = 7 ∨ op = 8 ∨ op = 9 ∨ op = 10 ∨ op = 11 ∨ op = 12 ∨ op = 13) with rfl | rfl | rfl | rfl | rfl | rfl | rfl | rfl | rfl | rfl | rfl
  · exact f32_3 ha ha'.1 ha'.2 hb'.1 hb'.2
  · exact f32_4 ha ha'.1 ha'.2 hb'.1 hb'.2
  · exact f32_5 ha ha'.1 ha'.2 hb'.1 hb'.2
  · exact f32_6 ha ha'.1 ha'.2 hb'.1 hb'.2
  · exact f32_7 ha ha'.1 ha'.2 hb'.1 hb'.2
  · exact f32_8 ha ha'.1 ha'.2 hb'.1 hb'.2
  · exact f32_9 ha ha'.1 ha'.2 hb'.1 hb'.2
  · exact f32_10 ha ha'.1 ha'.2 hb'.1 hb'.2
  · exact f32_11 ha ha'.1 ha'.2 hb'.1 hb'.2
  · exact f32_12 ha ha'.1 ha'.2 hb'.1 hb'.2
  · exact f32_13 ha ha'.1 ha'.2 hb'.1 hb'.2
def sp32 : List Value → Option Value
  | [.int .i64 op, .int .u64 a, .int .u64 b] => bif aluB 3 op a b then some (.int .u64 (rck op.toNat a b)) else none
  | _ => none
noncomputable def T9 : Tab := { T7 with orc := addOrc T7.orc 32 sp32 }
theorem progOk9 [Bs] : ProgOk Try.prog T9 := progOk7.know 32 sp32 fun args v h => by
  unfold sp32 at h
  split at h
  · rename_i op a b; cases hb : (aluB 3 op a b)
    · rw [hb] at h; cases h
    · rw [hb] at h; cases h
      exact ⟨rfl, rfl, f32_any hb⟩
  · cases h
theorem orc32 (op : Int) (a : Int) (b : Int) (h : aluB 3 op a b = true) : sp32 [.int .i64 op, .int .u64 a, .int .u64 b] = some (.int .u64 (rck op.toNat a b)) := by
  simp only [sp32, h, cond_true]
theorem known_run : answers (.bool true) (evCall Try.prog T9 600 16 #[] ⟨.lf, 0⟩) = true := by kernel_rfl
def sp16 : List Value → Option Value
  | [] => some (.bool true)
  | _ => none
noncomputable def T8 : Tab := { T9 with orc := addOrc T9.orc 16 sp16 }
theorem progOk8 [Bs] : ProgOk Try.prog T8 := progOk9.know 16 sp16 fun args v h => by
  unfold sp16 at h
  split at h
  · cases h; exact ⟨rfl, rfl, acall_answers known_run⟩
  · cases h
end Hm
end Go.Proofs.Ytjhijpfbokklcaa
