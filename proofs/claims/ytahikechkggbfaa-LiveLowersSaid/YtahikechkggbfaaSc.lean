/- Chapter 20: values. -/
import Derived.Test.YtahikechkggbfaaSa
namespace Go.Proofs.Ytahikechkggbfaa
open Go Go.Ev Go.RowKit Lm
set_option linter.unusedVariables false
set_option linter.unusedSimpArgs false
set_option maxRecDepth 100000
namespace Ls
def valB (n k : Int) : Bool := decide (0 ≤ n) && decide (n < k)
/-- May the k-th operation be? -/
def madeB (nd nr : Int) (x : II) (k : Int) : Bool :=
  decide (x.2.1 = k) && (if x.1 = 0 then decide (x.2.2.1 = 0) && decide (x.2.2.2.1 = 0)
    else if x.1 = 1 then (decide (x.2.2.1 = 0) && decide (x.2.2.2.1 = 0)) && decide (x.2.2.2.2 < nd)
    else if x.1 = 2 then (decide (x.2.2.1 = 0) && decide (x.2.2.2.1 = 0)) && decide (x.2.2.2.2 < nr)
    else if x.1 = 3 then (valB x.2.2.1 k && valB x.2.2.2.1 k) && (decide (16 ≤ x.2.2.2.2) && decide (x.2.2.2.2 ≤ 23))
    else if x.1 = 4 then (valB x.2.2.1 k && valB x.2.2.2.1 k) && ((decide (16 ≤ x.2.2.2.2) && decide (x.2.2.2.2 ≤ 23)) || decide (x.2.2.2.2 = 25))
    else false)
/-- May a block be? -/
structure RightP (c : List II) (od rd : List Int) (nd nr hd hr fl tg br ct vs : Int) : Prop where
  vs_ : vs = c.length
  len : c.length ≤ 64
  nd_ : 0 ≤ nd ∧ nd ≤ 16
  nr_ : 0 ≤ nr ∧ nr ≤ 16
  hd_ : 0 ≤ hd ∧ hd ≤ 16
  hr_ : 0 ≤ hr ∧ hr ≤ 16
  ct_ : 1 ≤ ct ∧ ct ≤ 8
  code : ∀ (k : Nat) (x : II), c[k]? = some x → madeB nd nr x k = true
  od_ : ∀ (k : Nat) (x : Int), od[k]? = some x → valB x vs = true
  rd_ : ∀ (k : Nat) (x : Int), rd[k]? = some x → valB x vs = true
  fl_ : fl = -1 ∨ valB fl vs = true
  tg_ : tg = -1 ∨ valB tg vs = true
  br_ : br = 0 ∨ (33 ≤ br ∧ br ≤ 37 ∧ tg = -1)
noncomputable instance (c : List II) (od rd : List Int) (nd nr hd hr fl tg br ct vs : Int) : Decidable (RightP c od rd nd nr hd hr fl tg br ct vs) := Classical.propDecidable _
noncomputable def rightB (c : List II) (od rd : List Int) (nd nr hd hr fl tg br ct vs : Int) : Bool := decide (RightP c od rd nd nr hd hr fl tg br ct vs)
theorem rightB_no {c : List II} {od rd : List Int} {nd nr hd hr fl tg br ct vs : Int} (h : RightP c od rd nd nr hd hr fl tg br ct vs → False) : rightB c od rd nd nr hd hr fl tg br ct vs = false := decide_eq_false h
theorem rightB_yes {c : List II} {od rd : List Int} {nd nr hd hr fl tg br ct vs : Int} (h : RightP c od rd nd nr hd hr fl tg br ct vs) : rightB c od rd nd nr hd hr fl tg br ct vs = true := decide_eq_true h
theorem ok_Lm_T2 [Bs] : ProgOk Try.prog Lm.T2 := progOk2
noncomputable def f33b : Code := Try.f33.body.getD .skip
theorem f33_body : Try.f33.body = some f33b := by kernel_rfl
theorem f33_fn : Lm.T2.fn 33 = some Try.f33 := by kernel_rfl
theorem value_s (a k : Int)  : SCall Try.prog Lm.T2 33 #[.int .i64 a, .int .i64 k] (hq []) fun v h => v = .bool (valB a k) ∧ h = hq [] := by
  refine scall_sd 12 _ 0 kr f33_fn f33_body rfl rfl rfl fun X hX => ?_
  refine sd_run 10 ?_
  rcases Bool.eq_false_or_eq_true ((decide ((a : Int) ≥ 0))) with hc1 | hc1
  · skip
    refine sd_see 7 (.bool true) (see_bool kr hc1) ?_
    refine sd_run 8 ?_
    simp only [decide_eq_true_eq, decide_eq_false_iff_not, beq_iff_eq, beq_eq_false_iff_ne, bne_iff_ne, bne_eq_false_iff_eq, ne_eq, Bool.not_eq_true, Bool.not_eq_false, Bool.not_not, gt_iff_lt, ge_iff_le, Int.not_le, Int.not_lt] at hc1
    refine sd_end (.bool (decide ((a : Int) < k))) hX kr kr kr (.bool (decide ((a : Int) < k))) (hq []) (emOf []) (sub_of kr kr True.intro) (rn2_sound _ _ kr) ⟨(by unfold valB; congr 1; simp [*]), rfl⟩
  · skip
    refine sd_see 7 (.bool false) (see_bool kr hc1) ?_
    refine sd_run 8 ?_
    simp only [decide_eq_true_eq, decide_eq_false_iff_not, beq_iff_eq, beq_eq_false_iff_ne, bne_iff_ne, bne_eq_false_iff_eq, ne_eq, Bool.not_eq_true, Bool.not_eq_false, Bool.not_not, gt_iff_lt, ge_iff_le, Int.not_le, Int.not_lt] at hc1
    refine sd_end (.bool false) hX kr kr kr (.bool false) (hq []) (emOf []) (sub_of kr kr True.intro) (rn2_sound _ _ kr) ⟨(by unfold valB; congr 1; simp; omega), rfl⟩
def sp33 : List Value → Option Value
  | [.int .i64 a, .int .i64 k] => some (.bool (valB a k))
  | _ => none
noncomputable def T3 : Tab := { Lm.T2 with orc := addOrc Lm.T2.orc 33 sp33 }
theorem ok_T3 [Bs] : ProgOk Try.prog T3 := ok_Lm_T2.know 33 sp33 fun args v h => by
  unfold sp33 at h
  split at h
  · rename_i a k; cases h; exact ⟨rfl, rfl, SCall.data (value_s a k) rfl rfl⟩
  · cases h
instance : OrcDat T3 := orcDat_add inferInstance 33 sp33 fun l v h => by
  unfold sp33 at h
  split at h
  · cases h; exact ⟨rfl, rfl⟩
  · cases h
end Ls
end Go.Proofs.Ytahikechkggbfaa
