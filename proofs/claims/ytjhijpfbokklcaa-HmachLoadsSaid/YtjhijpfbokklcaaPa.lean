/- Chapter 4: what is told of an operation, and the calls of data on it. -/
import Derived.Test.YtjhijpfbokklcaaHa
import Derived.Test.YtjhijpfbokklcaaEvSh
import Derived.WalkKit
namespace Go.Proofs.Ytjhijpfbokklcaa
open Go Go.Ev Go.RowKit
set_option linter.unusedVariables false
set_option linter.unusedSimpArgs false
set_option maxRecDepth 100000
namespace Hm
def inT (op : Int) : Bool := decide (0 ≤ op) && decide (op < 20)
def fieldT : List Int := [0, 9, 3, 7, 7, 7, 7, 7, 7, 7, 7, 7, 7, 7, 11, 14, 10, 10, 8, 8]
def rdT : List Bool := [false, true, true, true, true, true, true, true, true, true, true, true, true, true, true, false, false, false, false, false]
def raT : List Bool := [false, false, true, true, true, true, true, true, true, true, true, true, true, true, true, true, true, true, false, false]
def rbT : List Bool := [false, false, false, true, true, true, true, true, true, true, true, true, true, true, false, true, false, false, false, false]
def imT : List Bool := [false, true, false, false, false, false, false, false, false, false, false, false, false, false, true, true, true, true, true, true]
def fieldsV (op : Int) : Int := bif inT op then fieldT.getD op.toNat 0 else -1
def rdB (op : Int) : Bool := bif inT op then rdT.getD op.toNat false else false
def raB (op : Int) : Bool := bif inT op then raT.getD op.toNat false else false
def rbB (op : Int) : Bool := bif inT op then rbT.getD op.toNat false else false
def imB (op : Int) : Bool := bif inT op then imT.getD op.toNat false else false
def pick0 (b : Bool) (x : Int) : Int := bif b then x else 0
def regV (n : Int) : Bool := decide (0 ≤ n) && decide (n < 16)
def okB (b : Bool) (r : Int) : Bool := regV r && (b || r == 0)
def rightV (op rd ra rb im : Int) : Bool := inT op && (okB (rdB op) rd && (okB (raB op) ra && (okB (rbB op) rb && (imB op || im == 0))))
theorem inT_lo {op : Int} (h : op < 0) : inT op = false := by simp [inT]; omega
theorem inT_hi {op : Int} (h : 20 ≤ op) : inT op = false := by simp [inT]; omega
theorem inT_of {op : Int} (h : inT op = true) : op = 0 ∨ op = 1 ∨ op = 2 ∨ op = 3 ∨ op = 4 ∨ op = 5 ∨ op = 6 ∨ op = 7 ∨ op = 8 ∨ op = 9 ∨ op = 10 ∨ op = 11 ∨ op = 12 ∨ op = 13 ∨ op = 14 ∨ op = 15 ∨ op = 16 ∨ op = 17 ∨ op = 18 ∨ op = 19 := by simp [inT] at h; omega
def i64B (n : Int) : Bool := decide (-9223372036854775808 ≤ n) && decide (n ≤ 9223372036854775807)
def u64B (n : Int) : Bool := decide (0 ≤ n) && decide (n < 18446744073709551616)
def u32B (n : Int) : Bool := decide (0 ≤ n) && decide (n < 4294967296)
noncomputable def T0 : Tab := tabOf Try.prog
theorem progOk0 [Bs] : ProgOk Try.prog T0 := progOk_of (by kernel_rfl) (by kernel_rfl)
def inB (n lo hi : Int) : Bool := decide (-9223372036854775808 ≤ n) && decide (n ≤ 9223372036854775807) && decide (0 ≤ lo) && decide (lo ≤ hi) && decide (hi ≤ 1099511627776)
theorem quiet_eq {w w' : World} {e : Ending} {v : Value} (h : e = .returned v ∧ w = w') : e = .returned v ∧ Quiet w w' := ⟨h.1, by rw [← h.2]; exact Quiet.refl _⟩
def sp12 : List Value → Option Value
  | [.int .i64 n, .int .i64 lo, .int .i64 hi] => bif inB n lo hi then some (.int .i64 (lo + n % (hi - lo + 1))) else none
  | _ => none
noncomputable def T1 : Tab := { T0 with orc := addOrc T0.orc 12 sp12 }
theorem progOk1 [Bs] : ProgOk Try.prog T1 := progOk0.add 12 sp12 fun args v h => by
  unfold sp12 at h
  split at h
  · rename_i n lo hi; cases hb : (inB n lo hi)
    · rw [hb] at h; cases h
    · rw [hb] at h; cases h
      unfold inB at hb
      simp only [Bool.and_eq_true, decide_eq_true_eq] at hb
      obtain ⟨⟨⟨⟨h1, h2⟩, h3⟩, h4⟩, h5⟩ := hb
      exact ⟨rfl, rfl, fun w _ => (within_any n lo hi w h1 h2 h3 h4 h5).mono fun _ _ => quiet_eq⟩
  · cases h
theorem orc12 (n : Int) (lo : Int) (hi : Int) (h : inB n lo hi = true) : sp12 [.int .i64 n, .int .i64 lo, .int .i64 hi] = some (.int .i64 (lo + n % (hi - lo + 1))) := by
  simp only [sp12, h, cond_true]
noncomputable def f28b : Code := Try.f28.body.getD .skip
theorem f28_body : Try.f28.body = some f28b := by kernel_rfl
theorem f28_fn : T1.fn 28 = some Try.f28 := by kernel_rfl
theorem f28_lo {op : Int} (h : op < 0) : ACall Try.prog T1 28 #[.int .i64 op] ⟨.lf, 0⟩ fun r _ => r = .int .i64 (fieldsV op) := by
  refine acall_cf 39 (initTm 0 #[.int .i64 op]) rfl f28_fn f28_body rfl rfl ?_
  refine cf_go 11 ?_
  refine cf_see 5 (.bool false) (see_bool (by kernel_rfl) ((beq_eq_false_iff_ne.2 (by omega)) : (((op : Int) == 0)) = false)) ?_
  refine cf_go 8 ?_
  refine cf_see 8 (.bool false) (see_bool (by kernel_rfl) ((beq_eq_false_iff_ne.2 (by omega)) : (((op : Int) == 1)) = false)) ?_
  refine cf_go 8 ?_
  refine cf_see 11 (.bool false) (see_bool (by kernel_rfl) ((beq_eq_false_iff_ne.2 (by omega)) : (((op : Int) == 2)) = false)) ?_
  refine cf_go 8 ?_
  refine cf_see 14 (.bool false) (see_bool (by kernel_rfl) ((decide_eq_false (by omega)) : ((decide ((op : Int) ≥ 3))) = false)) ?_
  refine cf_go 12 ?_
  refine cf_see 21 (.bool false) (see_bool (by kernel_rfl) ((beq_eq_false_iff_ne.2 (by omega)) : (((op : Int) == 14)) = false)) ?_
  refine cf_go 8 ?_
  refine cf_see 24 (.bool false) (see_bool (by kernel_rfl) ((beq_eq_false_iff_ne.2 (by omega)) : (((op : Int) == 15)) = false)) ?_
  refine cf_go 8 ?_
  refine cf_see 27 (.bool false) (see_bool (by kernel_rfl) ((beq_eq_false_iff_ne.2 (by omega)) : (((op : Int) == 16)) = false)) ?_
  refine cf_go 3 ?_
  refine cf_see 30 (.bool false) (see_bool (by kernel_rfl) ((beq_eq_false_iff_ne.2 (by omega)) : (((op : Int) == 17)) = false)) ?_
  refine cf_go 9 ?_
  refine cf_see 34 (.bool false) (see_bool (by kernel_rfl) ((beq_eq_false_iff_ne.2 (by omega)) : (((op : Int) == 18)) = false)) ?_
  refine cf_go 3 ?_
  refine cf_see 37 (.bool false) (see_bool (by kernel_rfl) ((beq_eq_false_iff_ne.2 (by omega)) : (((op : Int) == 19)) = false)) ?_
  refine cf_go 14 ?_
  refine cf_end (.int .i64 (-1)) _ (by kernel_rfl) (by kernel_rfl) rfl ?_
  simp only [fieldsV, inT_lo h, cond_false]
theorem f28_hi {op : Int} (h : 20 ≤ op) : ACall Try.prog T1 28 #[.int .i64 op] ⟨.lf, 0⟩ fun r _ => r = .int .i64 (fieldsV op) := by
  refine acall_cf 39 (initTm 0 #[.int .i64 op]) rfl f28_fn f28_body rfl rfl ?_
  refine cf_go 11 ?_
  refine cf_see 5 (.bool false) (see_bool (by kernel_rfl) ((beq_eq_false_iff_ne.2 (by omega)) : (((op : Int) == 0)) = false)) ?_
  refine cf_go 8 ?_
  refine cf_see 8 (.bool false) (see_bool (by kernel_rfl) ((beq_eq_false_iff_ne.2 (by omega)) : (((op : Int) == 1)) = false)) ?_
  refine cf_go 8 ?_
  refine cf_see 11 (.bool false) (see_bool (by kernel_rfl) ((beq_eq_false_iff_ne.2 (by omega)) : (((op : Int) == 2)) = false)) ?_
  refine cf_go 8 ?_
  refine cf_see 14 (.bool true) (see_bool (by kernel_rfl) ((decide_eq_true (by omega)) : ((decide ((op : Int) ≥ 3))) = true)) ?_
  refine cf_go 3 ?_
  refine cf_see 17 (.bool false) (see_bool (by kernel_rfl) ((decide_eq_false (by omega)) : ((decide ((op : Int) ≤ 13))) = false)) ?_
  refine cf_go 9 ?_
  refine cf_see 21 (.bool false) (see_bool (by kernel_rfl) ((beq_eq_false_iff_ne.2 (by omega)) : (((op : Int) == 14)) = false)) ?_
  refine cf_go 8 ?_
  refine cf_see 24 (.bool false) (see_bool (by kernel_rfl) ((beq_eq_false_iff_ne.2 (by omega)) : (((op : Int) == 15)) = false)) ?_
  refine cf_go 8 ?_
  refine cf_see 27 (.bool false) (see_bool (by kernel_rfl) ((beq_eq_false_iff_ne.2 (by omega)) : (((op : Int) == 16)) = false)) ?_
  refine cf_go 3 ?_
  refine cf_see 30 (.bool false) (see_bool (by kernel_rfl) ((beq_eq_false_iff_ne.2 (by omega)) : (((op : Int) == 17)) = false)) ?_
  refine cf_go 9 ?_
  refine cf_see 34 (.bool false) (see_bool (by kernel_rfl) ((beq_eq_false_iff_ne.2 (by omega)) : (((op : Int) == 18)) = false)) ?_
  refine cf_go 3 ?_
  refine cf_see 37 (.bool false) (see_bool (by kernel_rfl) ((beq_eq_false_iff_ne.2 (by omega)) : (((op : Int) == 19)) = false)) ?_
  refine cf_go 14 ?_
  refine cf_end (.int .i64 (-1)) _ (by kernel_rfl) (by kernel_rfl) rfl ?_
  simp only [fieldsV, inT_hi h, cond_false]
theorem f28_any (op : Int) : ACall Try.prog T1 28 #[.int .i64 op] ⟨.lf, 0⟩ fun r _ => r = .int .i64 (fieldsV op) := by
  by_cases h : op < 0
  · exact f28_lo h
  · by_cases h2 : 20 ≤ op
    · exact f28_hi (by omega)
    · exact acall_range (N := 20) (k := 300) (g := fun op => .int .i64 (fieldsV op)) (by kernel_rfl) (by omega) (by omega)
def sp28 : List Value → Option Value
  | [.int .i64 op] => some (.int .i64 (fieldsV op))
  | _ => none
noncomputable def T2 : Tab := { T1 with orc := addOrc T1.orc 28 sp28 }
theorem progOk2 [Bs] : ProgOk Try.prog T2 := progOk1.know 28 sp28 fun args v h => by
  unfold sp28 at h
  split at h
  · rename_i op; cases h; exact ⟨rfl, rfl, f28_any op⟩
  · cases h
noncomputable def f39b : Code := Try.f39.body.getD .skip
theorem f39_body : Try.f39.body = some f39b := by kernel_rfl
theorem f39_fn : T2.fn 39 = some Try.f39 := by kernel_rfl
theorem f39_any (n : Int) : ACall Try.prog T2 39 #[.int .i64 n] ⟨.lf, 0⟩ fun r _ => r = .bool (regV n) := by
  refine acall_cf 9 (initTm 0 #[.int .i64 n]) rfl f39_fn f39_body rfl rfl ?_
  refine cf_go 10 ?_
  rcases Bool.eq_false_or_eq_true ((decide ((n : Int) ≥ 0))) with hc1 | hc1
  · skip
    refine cf_see 5 (.bool true) (see_bool (by kernel_rfl) hc1) ?_
    refine cf_go 7 ?_
    refine cf_end (.bool (decide ((n : Int) < 16))) _ (by kernel_rfl) (by kernel_rfl) rfl ?_
    congr 1; simp only [regV]; revert hc1; simp; try omega
  · skip
    refine cf_see 5 (.bool false) (see_bool (by kernel_rfl) hc1) ?_
    refine cf_go 7 ?_
    refine cf_end (.bool false) _ (by kernel_rfl) (by kernel_rfl) rfl ?_
    congr 1; simp only [regV]; revert hc1; simp; try omega
def sp39 : List Value → Option Value
  | [.int .i64 n] => some (.bool (regV n))
  | _ => none
noncomputable def T3 : Tab := { T2 with orc := addOrc T2.orc 39 sp39 }
theorem progOk3 [Bs] : ProgOk Try.prog T3 := progOk2.know 39 sp39 fun args v h => by
  unfold sp39 at h
  split at h
  · rename_i n; cases h; exact ⟨rfl, rfl, f39_any n⟩
  · cases h
theorem bits_eq (op : Int) : _root_.Go.Proofs.Ytjhijpfbokklcaa.rdB op = rdB op ∧ _root_.Go.Proofs.Ytjhijpfbokklcaa.raB op = raB op ∧ _root_.Go.Proofs.Ytjhijpfbokklcaa.rbB op = rbB op ∧ _root_.Go.Proofs.Ytjhijpfbokklcaa.imB op = imB op ∧ _root_.Go.Proofs.Ytjhijpfbokklcaa.okB op = inT op := by
  cases h : inT op
  · have h2 : op < 0 ∨ 19 < op := by simp [inT] at h; omega
    simp only [rdB, raB, rbB, imB, h, cond_false]
    simp [_root_.Go.Proofs.Ytjhijpfbokklcaa.rdB, _root_.Go.Proofs.Ytjhijpfbokklcaa.raB, _root_.Go.Proofs.Ytjhijpfbokklcaa.rbB, _root_.Go.Proofs.Ytjhijpfbokklcaa.imB, _root_.Go.Proofs.Ytjhijpfbokklcaa.okB]; omega
  · rcases inT_of h with rfl | rfl | rfl | rfl | rfl | rfl | rfl | rfl | rfl | rfl | rfl | rfl | rfl | rfl | rfl | rfl | rfl | rfl | rfl | rfl <;> decide
theorem sel_eq (b : Bool) (x : Int) : sel b x = pick0 b x := by cases b <;> rfl
def eqV (op rd ra rb im : Int) : Bool := (((op : Int) == op) && (((pick0 (rdB op) rd : Int) == rd) && (((pick0 (raB op) ra : Int) == ra) && (((pick0 (rbB op) rb : Int) == rb) && (((pick0 (imB op) im : Int) == im) && true)))))
theorem pick0_eq (b : Bool) (x : Int) : (pick0 b x == x) = (b || x == 0) := by
  cases b
  · show ((0 : Int) == x) = (false || x == 0)
    rw [Bool.false_or]; exact BEq.comm
  · simp [pick0]
theorem right_eq (op rd ra rb im : Int) : rightV op rd ra rb im = (inT op && eqV op rd ra rb im && regV rd && regV ra && regV rb) := by
  simp only [rightV, eqV, okB, pick0_eq, beq_self_eq_true, Bool.true_and, Bool.and_true]
  generalize regV rd = a; generalize regV ra = b; generalize regV rb = c
  generalize (rdB op || rd == 0) = d; generalize (raB op || ra == 0) = e; generalize (rbB op || rb == 0) = f; generalize (imB op || im == 0) = g
  cases inT op <;> cases a <;> cases b <;> cases c <;> cases d <;> cases e <;> cases f <;> cases g <;> rfl
theorem right_Ha (op rd ra rb im : Int) : rightB op rd ra rb im = rightV op rd ra rb im := by
  obtain ⟨h1, h2, h3, h4, h5⟩ := bits_eq op
  have hr : ∀ n, regB n = regV n := fun n => by simp [regB, regV]
  rw [right_eq]
  unfold rightB eqV
  simp only [h1, h2, h3, h4, h5, sel_eq, hr]
  have e : decide (pick0 (rdB op) rd = rd ∧ pick0 (raB op) ra = ra ∧ pick0 (rbB op) rb = rb ∧ pick0 (imB op) im = im) = (op == op && (pick0 (rdB op) rd == rd && (pick0 (raB op) ra == ra && (pick0 (rbB op) rb == rb && (pick0 (imB op) im == im && true))))) := by
    simp; rfl
  rw [e]
  simp only [Bool.and_assoc]
theorem f37_calls (op rd ra rb im : Int) (w : World) : Calls Try.prog 37 #[.agg #[.int .i64 op, .int .i64 rd, .int .i64 ra, .int .i64 rb, .int .u32 im]] w fun e w' => e = .returned (.bool (rightV op rd ra rb im)) ∧ Quiet w w' := by
  rw [← right_Ha]
  exact (right_any op rd ra rb im w).mono fun e w' h => ⟨h.1, Quiet.of_below h.2⟩
def sp37 : List Value → Option Value
  | [.agg ⟨[.int .i64 op, .int .i64 rd, .int .i64 ra, .int .i64 rb, .int .u32 im]⟩] => some (.bool (rightV op rd ra rb im))
  | _ => none
noncomputable def T4 : Tab := { T3 with orc := addOrc T3.orc 37 sp37 }
theorem progOk4 [Bs] : ProgOk Try.prog T4 := progOk3.add 37 sp37 fun args v h => by
  unfold sp37 at h
  split at h
  · rename_i op rd ra rb im; cases h; exact ⟨rfl, rfl, fun w _ => f37_calls op rd ra rb im w⟩
  · cases h
def tru (t : Bool) : Int := bif t then 1 else 0
noncomputable def f36b : Code := Try.f36.body.getD .skip
theorem f36_body : Try.f36.body = some f36b := by kernel_rfl
theorem f36_fn : T4.fn 36 = some Try.f36 := by kernel_rfl
theorem truth_run (t : Bool) : ACall Try.prog T4 36 #[.bool t] ⟨.lf, 0⟩ fun r _ => r = .int .u64 (tru t) := by
  cases t
  · exact acall_answers (k := 50) (by kernel_rfl)
  · exact acall_answers (k := 50) (by kernel_rfl)
def sp36 : List Value → Option Value
  | [.bool t] => some (.int .u64 (tru t))
  | _ => none
noncomputable def T5 : Tab := { T4 with orc := addOrc T4.orc 36 sp36 }
theorem progOk5 [Bs] : ProgOk Try.prog T5 := progOk4.know 36 sp36 fun args v h => by
  unfold sp36 at h
  split at h
  · rename_i t; cases h; exact ⟨rfl, rfl, truth_run t⟩
  · cases h
end Hm
end Go.Proofs.Ytjhijpfbokklcaa
